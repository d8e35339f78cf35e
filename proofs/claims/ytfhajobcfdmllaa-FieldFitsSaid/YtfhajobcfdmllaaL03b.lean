/- The walk of the law FieldFits. -/
import Derived.Test.YtfhajobcfdmllaaL03a
set_option linter.unusedVariables false
set_option linter.unusedSimpArgs false
namespace Go.Proofs.Ytfhajobcfdmllaa
open Go.RowKit

set_option maxHeartbeats 1000000 in
set_option maxRecDepth 100000 in
theorem fieldFits_walk (n width : Int) (w : World) (hn : -9223372036854775808 ≤ n ∧ n ≤ 9223372036854775807) (hw : -9223372036854775808 ≤ width ∧ width ≤ 9223372036854775807) :
    Calls Try.prog 3 #[.int .i64 n, .int .i64 width] w fun e w' => e = .returned (.bool true) ∧ Below w.heap.size w w' := by
  go_enter Try.func3, Try.ntmps3
  go_wp2_with (first
    | (go_at_call 11; refine (alive03_any w).mono ?_; rintro e w1 ⟨rfl, hB⟩)
    | (go_at_call 12; refine (fits_any n width _ hn).mono ?_; rintro e w2 ⟨rfl, rfl⟩)
    | (go_at_call 13; refine (rfits_any n width _ hn).mono ?_; rintro e w2 ⟨rfl, rfl⟩))
  go_ret
  exact ⟨by first | done | rfl | simp, hB⟩
end Go.Proofs.Ytfhajobcfdmllaa
