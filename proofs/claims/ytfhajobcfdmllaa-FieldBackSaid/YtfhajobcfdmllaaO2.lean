/- The walk of FieldWrites: a writer, and the document's own, call by call. -/
import Derived.Test.YtfhajobcfdmllaaO1
import Derived.StillTailTactics
import Derived.Deep.DeepCutAuto
import Derived.BigQuiet
set_option linter.unusedVariables false
set_option linter.unusedSimpArgs false
namespace Go.Proofs.Ytfhajobcfdmllaa
open Go.RowKit

/-- A writer in memory (at s), and the document's state beside it (at r). -/
structure FW (w : World) (g g2 c N : Nat) (s r : WS) (A : Option Addr) (c' : Nat) (W : World) : Prop where
  wr : Wr W w.heap.size g g2 c s
  row : W.heap[N]? = some (.cells #[.slice A r.xs.length c', .int .i64 (r.at_ : Int), .bool r.sp] 30)
  bs : Bs W A r.xs.length c' r.xs
  ne : ∀ ad, A = some ad → 0 < r.xs.length → ad.block ≠ g ∧ ad.block ≠ g2 ∧ ad.block ≠ N
  bel : Below w.heap.size w W
  lo : w.heap.size ≤ N
  n1 : N ≠ g
  n2 : N ≠ g2
  le : r.at_ ≤ r.xs.length
theorem Wr.lt {w : World} {base g g2 c : Nat} {s : WS} (h : Wr w base g g2 c s) : g < w.heap.size ∧ g2 < w.heap.size := by
  refine ⟨(Array.getElem?_eq_some_iff.1 h.cur.row).1, ?_⟩
  rcases h.own.row.2 with ⟨e, _⟩ | ⟨g', cap, cur, e, hg, hh, _⟩
  · cases e
  · injection e with e
    injection e with e
    injection e with e
    subst e
    exact (Array.getElem?_eq_some_iff.1 hh).1
theorem FW.lt {w W : World} {g g2 c N c' : Nat} {s r : WS} {A : Option Addr} (h : FW w g g2 c N s r A c' W) : g < W.heap.size ∧ N < W.heap.size ∧ g2 < W.heap.size :=
  ⟨h.wr.lt.1, (Array.getElem?_eq_some_iff.1 h.row).1, h.wr.lt.2⟩
theorem FW.step {w W W1 : World} {g g2 c N c' : Nat} {s r : WS} {A : Option Addr} (h : FW w g g2 c N s r A c' W) (hB : Below W.heap.size W W1) : FW w g g2 c N s r A c' W1 :=
  ⟨h.wr.below hB, (hB.block N h.lt.2.1).trans h.row, h.bs.below hB, h.ne, below_then h.bel h.bel.size hB, h.lo, h.n1, h.n2, h.le⟩
theorem Bs.only2 {g h : Nat} {w W : World} {A : Option Addr} {n c : Nat} {xs : List UInt8} (k : Bs w A n c xs) (ho : Only2 g h w W) (h1 : ∀ ad, A = some ad → 0 < n → ad.block ≠ g) (h2 : ∀ ad, A = some ad → 0 < n → ad.block ≠ h) : Bs W A n c xs :=
  ⟨k.len, k.le, k.cap, k.lim, fun hn => by
    obtain ⟨ad, e, hc⟩ := k.cells hn
    exact ⟨ad, e, fun i hi => by
      rw [← hc i hi]
      exact World.cell?_of_block (ho.block _ (by rw [add_block]; exact k.lt ad e hn) (by rw [add_block]; exact h1 ad e hn) (by rw [add_block]; exact h2 ad e hn))⟩⟩
theorem FW.writer {w W W1 : World} {g g2 c N c' : Nat} {s r s1 : WS} {A : Option Addr} (h : FW w g g2 c N s r A c' W) (ho : Only2 g g2 W W1) (h1 : Wr W1 w.heap.size g g2 c s1) : FW w g g2 c N s1 r A c' W1 :=
  ⟨h1, (ho.block N h.lt.2.1 h.n1 h.n2).trans h.row, h.bs.only2 ho (fun ad e h0 => (h.ne ad e h0).1) (fun ad e h0 => (h.ne ad e h0).2.1), h.ne, ho.below h.bel h.wr.lo h.wr.lo2 (Nat.le_refl _), h.lo, h.n1, h.n2, h.le⟩
theorem set3_only {W : World} (N : Nat) (a b c : Value) : OnlyB N W (((W.setCell ⟨N, 0, none⟩ a).setCell ⟨N, 1, none⟩ b).setCell ⟨N, 2, none⟩ c) :=
  (((OnlyB.refl N W).set 0 a).set 1 b).set 2 c
theorem FW.ref {w W : World} {g g2 c N c' : Nat} {s r : WS} {A : Option Addr} (h : FW w g g2 c N s r A c' W) (B : Option Addr) (d : Nat) (q : WS) (hb : Bs W B q.xs.length d q.xs) (hq : q.xs.length = r.xs.length) (hle : q.at_ ≤ q.xs.length)
    (hB : B = A ∨ ∀ ad, B = some ad → 0 < q.xs.length → ad.block ≠ g ∧ ad.block ≠ g2 ∧ ad.block ≠ N) :
    FW w g g2 c N s q B d (((W.setCell ⟨N, 0, none⟩ (.slice B q.xs.length d)).setCell ⟨N, 1, none⟩ (.int .i64 (q.at_ : Int))).setCell ⟨N, 2, none⟩ (.bool q.sp)) := by
  have hne : ∀ ad, B = some ad → 0 < q.xs.length → ad.block ≠ g ∧ ad.block ≠ g2 ∧ ad.block ≠ N := by
    rcases hB with rfl | hB
    · intro ad e h0
      exact h.ne ad e (by omega)
    · exact hB
  have ho := set3_only (W := W) N (.slice B q.xs.length d) (.int .i64 (q.at_ : Int)) (.bool q.sp)
  exact ⟨h.wr.only ho (fun e => h.n1 e.symm) (fun e => h.n2 e.symm), row3_set _ _ _ h.row, hb.only ho (fun ad e h0 => (hne ad e h0).2.2), hne, ho.below h.bel h.lo (Nat.le_refl _), h.lo, h.n1, h.n2, hle⟩
/-- One call's doing. -/
def skipS (s : WS) (m : Int) : WS := ⟨skA s.xs.length s.at_ s.sp m, !roomB s.xs.length s.at_ s.sp m, s.xs⟩
theorem bytesS_len (s : WS) (ys : List UInt8) (h : s.at_ ≤ s.xs.length) : (bytesS s ys).xs.length = s.xs.length ∧ (bytesS s ys).at_ ≤ (bytesS s ys).xs.length := by
  unfold bytesS
  split
  · rename_i hr
    obtain ⟨_, _, r3⟩ := of_decide_eq_true hr
    dsimp only
    rw [putL_length _ _ _ (by omega)]
    exact ⟨rfl, by omega⟩
  · exact ⟨rfl, h⟩
theorem putS_len (s : WS) (n wd : Int) (h : s.at_ ≤ s.xs.length) : (putS s n wd).xs.length = s.xs.length ∧ (putS s n wd).at_ ≤ (putS s n wd).xs.length := by
  unfold putS
  split
  · rename_i hr
    dsimp only
    rw [putL_length _ _ _ (by rw [le8_length]; exact hr.2.2)]
    exact ⟨rfl, hr.2.2⟩
  · exact ⟨rfl, h⟩
theorem skipS_len (s : WS) (m : Int) (h : s.at_ ≤ s.xs.length) : (skipS s m).xs.length = s.xs.length ∧ (skipS s m).at_ ≤ (skipS s m).xs.length := ⟨rfl, skA_le h⟩
theorem skip_wr (base g g2 c : Nat) (s : WS) (m : Int) (w : World) (h : Wr w base g g2 c s) :
    Calls Try.prog 21 #[.pointer (some ⟨g, 0, none⟩), .int .i64 m] w fun e w' => e = .returned (.tuple #[]) ∧ Wr w' base g g2 c (skipS s m) ∧ Only2 g g2 w w' := by
  refine (skip_any g _ _ _ _ _ _ m w h.cur).mono ?_
  have hle := h.cur.le
  have hown : ∀ w', OnlyB g w w' → Ow w' base (some ⟨g2, 0, none⟩) s.xs.length c s.xs := fun w' ho => h.own.only ho (fun k e => by injection e with e; injection e with e; subst e; exact fun q => h.ne q.symm)
  rintro e w' ⟨rfl, ho, _, ⟨q, hc⟩ | ⟨q1, q2, q3, hc⟩⟩
  · have hr : roomB s.xs.length s.at_ s.sp m = false := decide_eq_false (fun k => by
      obtain ⟨k1, k2, k3⟩ := k
      rcases q with q | q | q
      · rw [k1] at q; cases q
      · omega
      · omega)
    have hS : skipS s m = ⟨s.at_, true, s.xs⟩ := by unfold skipS skA; rw [hr]; rfl
    rw [hS]
    exact ⟨rfl, ⟨hc, hown _ ho, h.ne, h.lo, h.lo2⟩, Only2.of1 ho⟩
  · have hr : roomB s.xs.length s.at_ s.sp m = true := decide_eq_true ⟨q1, q2, by omega⟩
    have hS : skipS s m = ⟨s.at_ + m.toNat, false, s.xs⟩ := by unfold skipS skA; rw [hr]; rfl
    rw [hS]
    exact ⟨rfl, ⟨hc, hown _ ho, h.ne, h.lo, h.lo2⟩, Only2.of1 ho⟩
end Go.Proofs.Ytfhajobcfdmllaa
