/- A writer in memory, and a reader beside it. -/
import Derived.Test.YtenibcbodjkglaaO2
set_option linter.unusedVariables false
set_option linter.unusedSimpArgs false
namespace Go.Proofs.Ytenibcbodjkglaa
open Go.RowKit

structure WI (w : World) (g g2 c : Nat) (s : WS) (W : World) : Prop where
  wr : Wr W w.heap.size g g2 c s
  bel : Below w.heap.size w W
theorem WI.step {w W W1 : World} {g g2 c : Nat} {s : WS} (h : WI w g g2 c s W) (hB : Below W.heap.size W W1) : WI w g g2 c s W1 := ⟨h.wr.below hB, below_then h.bel h.bel.size hB⟩
theorem WI.writer {w W W1 : World} {g g2 c : Nat} {s s1 : WS} (h : WI w g g2 c s W) (ho : Only2 g g2 W W1) (h1 : Wr W1 w.heap.size g g2 c s1) : WI w g g2 c s1 W1 := ⟨h1, ho.below h.bel h.wr.lo h.wr.lo2 (Nat.le_refl _)⟩
theorem WI.only {w W W1 : World} {g g2 c k : Nat} {s : WS} (h : WI w g g2 c s W) (ho : OnlyB k W W1) (h1 : g ≠ k) (h2 : g2 ≠ k) (h0 : w.heap.size ≤ k) : WI w g g2 c s W1 := ⟨h.wr.only ho h1 h2, ho.below h.bel h0 (Nat.le_refl _)⟩
theorem row4_cells' {W : World} {g : Nat} {T : TypeId} {x y z u : Value} (h : W.heap[g]? = some (.cells #[x, y, z, u] T)) :
    W.cell? ⟨g, 0, none⟩ = some x ∧ W.cell? ⟨g, 1, none⟩ = some y ∧ W.cell? ⟨g, 2, none⟩ = some z ∧ W.cell? ⟨g, 3, none⟩ = some u :=
  ⟨by rw [cell_of_row _ _ _ _ _ _ h]; rfl, by rw [cell_of_row _ _ _ _ _ _ h]; rfl, by rw [cell_of_row _ _ _ _ _ _ h]; rfl, by rw [cell_of_row _ _ _ _ _ _ h]; rfl⟩

/-- A writer at rest, and a reader beside it. -/
structure RI (w : World) (g g2 c gr : Nat) (A1 : Option Addr) (c1 : Nat) (s : WS) (a : Nat) (sp : Bool) (xs : List UInt8) (W : World) : Prop where
  wi : WI w g g2 c s W
  cur : Cur W gr 86 A1 xs.length c1 a sp
  row : Bs W A1 xs.length c1 xs
  ne : ∀ ad, A1 = some ad → 0 < xs.length → ad.block ≠ gr
  n1 : g ≠ gr
  n2 : g2 ≠ gr
  n0 : w.heap.size ≤ gr
  nw : ∀ ad, A1 = some ad → 0 < xs.length → ad.block ≠ g ∧ ad.block ≠ g2
theorem RI.step {w W W1 : World} {g g2 c gr c1 a : Nat} {A1 : Option Addr} {s : WS} {sp : Bool} {xs : List UInt8} (h : RI w g g2 c gr A1 c1 s a sp xs W) (hB : Below W.heap.size W W1) : RI w g g2 c gr A1 c1 s a sp xs W1 :=
  ⟨h.wi.step hB, h.cur.below hB, h.row.below hB, h.ne, h.n1, h.n2, h.n0, h.nw⟩
theorem RI.go {w W W1 : World} {g g2 c gr c1 a a' : Nat} {A1 : Option Addr} {s : WS} {sp sp' : Bool} {xs : List UInt8} (h : RI w g g2 c gr A1 c1 s a sp xs W) (ho : OnlyB gr W W1) (hc : Cur W1 gr 86 A1 xs.length c1 a' sp') : RI w g g2 c gr A1 c1 s a' sp' xs W1 :=
  ⟨h.wi.only ho h.n1 h.n2 h.n0, hc, h.row.only ho h.ne, h.ne, h.n1, h.n2, h.n0, h.nw⟩
theorem RI.writer {w W W1 : World} {g g2 c gr c1 a : Nat} {A1 : Option Addr} {s s1 : WS} {sp : Bool} {xs : List UInt8} (h : RI w g g2 c gr A1 c1 s a sp xs W) (ho : Only2 g g2 W W1) (h1 : Wr W1 w.heap.size g g2 c s1) : RI w g g2 c gr A1 c1 s1 a sp xs W1 :=
  ⟨h.wi.writer ho h1, ⟨by rw [ho.block gr (Array.getElem?_eq_some_iff.1 h.cur.row).1 (fun e => h.n1 e.symm) (fun e => h.n2 e.symm)]; exact h.cur.row, h.cur.le, h.cur.lim, h.cur.nc⟩, h.row.only2 ho (fun ad e h0 => (h.nw ad e h0).1) (fun ad e h0 => (h.nw ad e h0).2), h.ne, h.n1, h.n2, h.n0, h.nw⟩
theorem RI.lt {w W : World} {g g2 c gr c1 a : Nat} {A1 : Option Addr} {s : WS} {sp : Bool} {xs : List UInt8} (h : RI w g g2 c gr A1 c1 s a sp xs W) : gr < W.heap.size := (Array.getElem?_eq_some_iff.1 h.cur.row).1
end Go.Proofs.Ytenibcbodjkglaa
