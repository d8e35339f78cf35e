/- The walk of the law CrcSums. -/
import Derived.Test.YtaoaenjhclicfaaA8
import Derived.Test.YtaoaenjhclicfaaP1
set_option linter.unusedVariables false
set_option linter.unusedSimpArgs false
namespace Go.Proofs.Ytaoaenjhclicfaa
open Go.RowKit

set_option maxHeartbeats 1000000 in
theorem crcSums_walk (A : Option Addr) (n c : Nat) (xs : List UInt8) (w : World) (hb : Bs w A n c xs) :
    Calls Try.prog 3 #[.slice A n c] w fun e w' => e = .returned (.bool true) ∧ Below w.heap.size w w' := by
  have hlim := hb.lim
  by_cases hn : 600 < n
  · have hn' : (600 : Int) < (n : Int) := by omega
    go_enter Try.func3, Try.ntmps3
    go_wp2_with (go_at_call 15; refine (alive02_any _).mono ?_; rintro e w1 ⟨rfl, hB⟩)
    go_ret
    exact ⟨rfl, hB⟩
  · have hn' : ¬ (600 : Int) < (n : Int) := by omega
    go_enter Try.func3, Try.ntmps3
    go_wp2_with (first | (go_at_call 15; refine (alive02_any _).mono ?_; rintro e w1 ⟨rfl, hB1⟩; replace hB1 := Aside0.mk hB1) | (go_at_call 16; refine (of_any _ _ _ _ _ (hb.below hB1.out)).mono ?_; rintro e w2 ⟨rfl, hB2⟩; replace hB2 := Aside0.mk hB2) | (go_at_call 17; refine (rof_any _ _ _ _ _ ((hb.below hB1.out).below hB2.out) (by omega)).mono ?_; rintro e w3 ⟨rfl, hB3⟩; replace hB3 := Aside0.mk hB3; rw [refOf_eq]))
    go_ret
    exact ⟨rfl, below_then hB1.out hB1.out.size (below_then hB2.out hB2.out.size hB3.out)⟩
end Go.Proofs.Ytaoaenjhclicfaa
