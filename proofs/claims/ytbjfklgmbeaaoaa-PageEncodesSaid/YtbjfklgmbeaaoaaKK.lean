/- law07's few. -/
import Derived.Test.YtbjfklgmbeaaoaaKJ
set_option linter.unusedVariables false
set_option linter.unusedSimpArgs false
namespace Go.Proofs.Ytbjfklgmbeaaoaa
open Go.RowKit

set_option maxHeartbeats 1000000 in
theorem few7_any (A : Option Addr) (n c : Nat) (w : World) : Calls Try.prog 23 #[.slice A n c] w fun e w' => e = .returned (.bool (decide ((n : Int) ≤ 2000))) ∧ w = w' := by
  go_enter Try.func23, Try.ntmps23
  go_wp2
  go_ret
  exact ⟨rfl, rfl⟩
end Go.Proofs.Ytbjfklgmbeaaoaa
