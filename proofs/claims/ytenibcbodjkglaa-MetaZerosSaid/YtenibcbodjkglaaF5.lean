/- The walks of Bytes: a writer's, a reader's. -/
import Derived.Test.YtenibcbodjkglaaF4
set_option linter.unusedVariables false
set_option linter.unusedSimpArgs false
namespace Go.Proofs.Ytenibcbodjkglaa
open Go.RowKit

set_option maxHeartbeats 1000000 in
set_option maxRecDepth 100000 in
theorem rbytes_any (base g : Nat) (A : Option Addr) (n c a : Nat) (sp : Bool) (xs : List UInt8) (m : Int) (w : World) (h : Cur w g 86 A n c a sp) (hb : Bs w A n c xs) (hne : ∀ ad, A = some ad → 0 < n → ad.block ≠ g) :
    Calls Try.prog 56 #[.pointer (some ⟨g, 0, none⟩), .int .i64 m] w fun e w' => ∃ A1 n1 c1 ys, e = .returned (.slice A1 n1 c1) ∧ Ow w' w.heap.size A1 n1 c1 ys ∧ OnlyB g w w' ∧
      (((sp = true ∨ m < 0 ∨ (n : Int) - a < m) ∧ Cur w' g 86 A n c a true ∧ ys = []) ∨ (sp = false ∧ 0 ≤ m ∧ a + m.toNat ≤ n ∧ Cur w' g 86 A n c (a + m.toNat) false ∧ ys = (xs.drop a).take m.toNat)) := by
  go_enter Try.func56, Try.ntmps56
  go_wp2_with (go_at_call 44; refine (next_any g _ A n c a sp m _ h).mono ?_; rintro e w2 ⟨ho, hsz, ⟨q1, rfl, hc⟩ | ⟨q1, q2, q3, rfl, hc⟩⟩)
  · go_wp2_with (go_at_call 47; refine (clone8_any none 0 0 [] _ (Bs.nil _ _ _ (by omega))).mono ?_; rintro e w3 ⟨A3, c3, rfl, hO3, hB3⟩)
    go_ret
    exact ⟨A3, 0, c3, [], rfl, hO3.mono (by omega), ho.trans (OnlyB.of_below hB3), .inl ⟨q1, hc.below hB3, rfl⟩⟩
  · have hb2 := ((hb.only ho hne).drop a h.le).take m.toNat (by omega)
    go_wp2_with (go_at_call 47; refine (clone8_any _ _ _ _ _ hb2).mono ?_; rintro e w3 ⟨A3, c3, rfl, hO3, hB3⟩)
    go_ret
    exact ⟨A3, m.toNat, c3, _, rfl, hO3.mono (by omega), ho.trans (OnlyB.of_below hB3), .inr ⟨q1, q2, q3, hc.below hB3, rfl⟩⟩
end Go.Proofs.Ytenibcbodjkglaa
