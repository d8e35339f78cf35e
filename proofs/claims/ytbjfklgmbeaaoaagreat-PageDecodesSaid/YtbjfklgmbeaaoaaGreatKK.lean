/- law07's few. -/
import Derived.Test.YtbjfklgmbeaaoaaGreatKJ
set_option linter.unusedVariables false
set_option linter.unusedSimpArgs false
namespace Go.Proofs.YtbjfklgmbeaaoaaGreat
open Go.RowKit

set_option maxHeartbeats 1000000 in
theorem few7_any (A : Option Addr) (n c : Nat) (w : World) : Calls Tryz.prog 4 #[.slice A n c] w fun e w' => e = .returned (.bool (decide ((n : Int) ≤ 2000))) ∧ w = w' := by
  go_enter Tryz.func4, Tryz.ntmps4
  go_wp2
  go_ret
  exact ⟨rfl, rfl⟩
end Go.Proofs.YtbjfklgmbeaaoaaGreat
