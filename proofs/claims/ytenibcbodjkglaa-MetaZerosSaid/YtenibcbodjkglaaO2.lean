/- The walk of FieldWrites: a writer, and the document's own, call by call. -/
import Derived.Test.YtenibcbodjkglaaO1
import Derived.StillTailTactics
import Derived.Deep.DeepCutAuto
import Derived.BigQuiet
set_option linter.unusedVariables false
set_option linter.unusedSimpArgs false
namespace Go.Proofs.Ytenibcbodjkglaa
open Go.RowKit

theorem Wr.lt {w : World} {base g g2 c : Nat} {s : WS} (h : Wr w base g g2 c s) : g < w.heap.size ∧ g2 < w.heap.size := by
  refine ⟨(Array.getElem?_eq_some_iff.1 h.cur.row).1, ?_⟩
  rcases h.own.row.2 with ⟨e, _⟩ | ⟨g', cap, cur, e, hg, hh, _⟩
  · cases e
  · injection e with e
    injection e with e
    injection e with e
    subst e
    exact (Array.getElem?_eq_some_iff.1 hh).1
theorem Bs.only2 {g h : Nat} {w W : World} {A : Option Addr} {n c : Nat} {xs : List UInt8} (k : Bs w A n c xs) (ho : Only2 g h w W) (h1 : ∀ ad, A = some ad → 0 < n → ad.block ≠ g) (h2 : ∀ ad, A = some ad → 0 < n → ad.block ≠ h) : Bs W A n c xs :=
  ⟨k.len, k.le, k.cap, k.lim, fun hn => by
    obtain ⟨ad, e, hc⟩ := k.cells hn
    exact ⟨ad, e, fun i hi => by
      rw [← hc i hi]
      exact World.cell?_of_block (ho.block _ (by rw [add_block]; exact k.lt ad e hn) (by rw [add_block]; exact h1 ad e hn) (by rw [add_block]; exact h2 ad e hn))⟩⟩
theorem set3_only {W : World} (N : Nat) (a b c : Value) : OnlyB N W (((W.setCell ⟨N, 0, none⟩ a).setCell ⟨N, 1, none⟩ b).setCell ⟨N, 2, none⟩ c) :=
  (((OnlyB.refl N W).set 0 a).set 1 b).set 2 c
/-- One call's doing. -/
def skipS (s : WS) (m : Int) : WS := ⟨skA s.xs.length s.at_ s.sp m, !roomB s.xs.length s.at_ s.sp m, s.xs⟩
theorem bytesS_len (s : WS) (ys : List UInt8) (h : s.at_ ≤ s.xs.length) : (bytesS s ys).xs.length = s.xs.length ∧ (bytesS s ys).at_ ≤ (bytesS s ys).xs.length := by
  unfold bytesS
  split
  · rename_i hr
    obtain ⟨_, _, r3⟩ := of_decide_eq_true hr
    dsimp only
    rw [putL_length _ _ _ (by omega)]
    exact ⟨rfl, by omega⟩
  · exact ⟨rfl, h⟩
theorem putS_len (s : WS) (n wd : Int) (h : s.at_ ≤ s.xs.length) : (putS s n wd).xs.length = s.xs.length ∧ (putS s n wd).at_ ≤ (putS s n wd).xs.length := by
  unfold putS
  split
  · rename_i hr
    dsimp only
    rw [putL_length _ _ _ (by rw [le8_length]; exact hr.2.2)]
    exact ⟨rfl, hr.2.2⟩
  · exact ⟨rfl, h⟩
theorem skipS_len (s : WS) (m : Int) (h : s.at_ ≤ s.xs.length) : (skipS s m).xs.length = s.xs.length ∧ (skipS s m).at_ ≤ (skipS s m).xs.length := ⟨rfl, skA_le h⟩
theorem skip_wr (base g g2 c : Nat) (s : WS) (m : Int) (w : World) (h : Wr w base g g2 c s) :
    Calls Try.prog 29 #[.pointer (some ⟨g, 0, none⟩), .int .i64 m] w fun e w' => e = .returned (.tuple #[]) ∧ Wr w' base g g2 c (skipS s m) ∧ Only2 g g2 w w' := by
  refine (skip_any g _ _ _ _ _ _ m w h.cur).mono ?_
  have hle := h.cur.le
  have hown : ∀ w', OnlyB g w w' → Ow w' base (some ⟨g2, 0, none⟩) s.xs.length c s.xs := fun w' ho => h.own.only ho (fun k e => by injection e with e; injection e with e; subst e; exact fun q => h.ne q.symm)
  rintro e w' ⟨rfl, ho, _, ⟨q, hc⟩ | ⟨q1, q2, q3, hc⟩⟩
  · have hr : roomB s.xs.length s.at_ s.sp m = false := decide_eq_false (fun k => by
      obtain ⟨k1, k2, k3⟩ := k
      rcases q with q | q | q
      · rw [k1] at q; cases q
      · omega
      · omega)
    have hS : skipS s m = ⟨s.at_, true, s.xs⟩ := by unfold skipS skA; rw [hr]; rfl
    rw [hS]
    exact ⟨rfl, ⟨hc, hown _ ho, h.ne, h.lo, h.lo2⟩, Only2.of1 ho⟩
  · have hr : roomB s.xs.length s.at_ s.sp m = true := decide_eq_true ⟨q1, q2, by omega⟩
    have hS : skipS s m = ⟨s.at_ + m.toNat, false, s.xs⟩ := by unfold skipS skA; rw [hr]; rfl
    rw [hS]
    exact ⟨rfl, ⟨hc, hown _ ho, h.ne, h.lo, h.lo2⟩, Only2.of1 ho⟩
end Go.Proofs.Ytenibcbodjkglaa
