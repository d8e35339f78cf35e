/- The walks of field.Fits and of the reference's. -/
import Derived.Test.YtcegphnhohpegaaA0
set_option linter.unusedVariables false
set_option linter.unusedSimpArgs false
namespace Go.Proofs.Ytcegphnhohpegaa
open Go.RowKit

/-- Which numbers have room in which widths. -/
def fitsB (n width : Int) : Bool := decide (1 ≤ width ∧ width ≤ 8 ∧ 0 ≤ n ∧ n < 256 ^ width.toNat)
theorem fits_no {n width : Int} (h : ¬ (1 ≤ width ∧ width ≤ 8 ∧ 0 ≤ n)) : fitsB n width = false := decide_eq_false (fun k => h ⟨k.1, k.2.1, k.2.2.1⟩)
end Go.Proofs.Ytcegphnhohpegaa
