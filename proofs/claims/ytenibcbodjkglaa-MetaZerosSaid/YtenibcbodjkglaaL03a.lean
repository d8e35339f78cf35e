/- The walk of field's own small example. -/
import Derived.Test.YtenibcbodjkglaaG3
set_option linter.unusedVariables false
set_option linter.unusedSimpArgs false
namespace Go.Proofs.Ytenibcbodjkglaa
open Go.RowKit

def ex3 : List UInt8 := [1, 2, 7, 0]
theorem put3 : putS (putS ⟨0, false, List.replicate 4 0⟩ 513 2) 7 1 = ⟨3, false, ex3⟩ := by rfl
/-- What the small example keeps. -/
structure I03 (w : World) (g g2 : Nat) (gr : Nat) (A1 : Option Addr) (c1 : Nat) (a : Nat) (sp : Bool) (A2 : Option Addr) (c2 : Nat) (W : World) : Prop where
  wr : Wr W w.heap.size g g2 4 ⟨3, false, ex3⟩
  cur : Cur W gr 86 A1 4 c1 a sp
  row : Bs W A1 4 c1 ex3
  out : Bs W A2 4 c2 ex3
  bel : Below w.heap.size w W
theorem I03.step {w W W1 : World} {g g2 gr c1 a c2 : Nat} {A1 A2 : Option Addr} {sp : Bool} (h : I03 w g g2 gr A1 c1 a sp A2 c2 W) (hB : Below W.heap.size W W1) : I03 w g g2 gr A1 c1 a sp A2 c2 W1 :=
  ⟨h.wr.below hB, h.cur.below hB, h.row.below hB, h.out.below hB, below_then h.bel h.bel.size hB⟩
theorem Wr.only {w W : World} {base g g2 c k : Nat} {s : WS} (h : Wr w base g g2 c s) (ho : OnlyB k w W) (h1 : g ≠ k) (h2 : g2 ≠ k) : Wr W base g g2 c s :=
  ⟨h.cur.only ho h1, h.own.only ho (fun j e => by injection e with e; injection e with e; subst e; exact h2), h.ne, h.lo, h.lo2⟩
theorem I03.go {w W W1 : World} {g g2 gr c1 a c2 a' : Nat} {A1 A2 : Option Addr} {sp sp' : Bool} (h : I03 w g g2 gr A1 c1 a sp A2 c2 W) (ho : OnlyB gr W W1) (h0 : w.heap.size ≤ gr) (h1 : g ≠ gr) (h2 : g2 ≠ gr)
    (h3 : ∀ ad, A1 = some ad → 0 < 4 → ad.block ≠ gr) (h4 : ∀ ad, A2 = some ad → 0 < 4 → ad.block ≠ gr) (hc : Cur W1 gr 86 A1 4 c1 a' sp') : I03 w g g2 gr A1 c1 a' sp' A2 c2 W1 :=
  ⟨h.wr.only ho h1 h2, hc, h.row.only ho h3, h.out.only ho h4, ho.below h.bel h0 (Nat.le_refl _)⟩

end Go.Proofs.Ytenibcbodjkglaa
