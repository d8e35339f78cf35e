/- The walks of field's small functions: NewWriter, Done, NewReader, Skip, Err, At, Left, Bytes. -/
import Derived.Test.YtcegphnhohpegaaF1
import Derived.Test.YtcegphnhohpegaaB0
set_option linter.unusedVariables false
set_option linter.unusedSimpArgs false
namespace Go.Proofs.Ytcegphnhohpegaa
open Go.RowKit

/-- How many bytes a new writer has. -/
def nwN (size : Int) : Nat := if 0 ≤ size ∧ size ≤ 65536 then size.toNat else 0
/-- What Done tells. -/
def doneE (sp : Bool) : Int := if sp = true then 30 else 0
def doneB (sp : Bool) (xs : List UInt8) : List UInt8 := if sp = true then [] else xs
end Go.Proofs.Ytcegphnhohpegaa
