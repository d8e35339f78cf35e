/- The walks of item's functions over an item: Far, Long, KidRoom, Room, Right, Of. -/
import Derived.Test.YtenibcbodjkglaaI2
import Derived.Test.YtenibcbodjkglaaA3
import Derived.Test.YtenibcbodjkglaaQ0
set_option linter.unusedVariables false
set_option linter.unusedSimpArgs false
namespace Go.Proofs.Ytenibcbodjkglaa
open Go.RowKit

theorem item_cells {w w1 : World} {T : TypeId} {fr : Nat × Nat} {a b c d : Value} (hB : Below (w.alloc (.cells #[a, b, c, d] T fr)).heap.size (w.alloc (.cells #[a, b, c, d] T fr)) w1) :
    w1.cell? ⟨w.heap.size, 0, none⟩ = some a ∧ w1.cell? ⟨w.heap.size, 1, none⟩ = some b ∧ w1.cell? ⟨w.heap.size, 2, none⟩ = some c ∧ w1.cell? ⟨w.heap.size, 3, none⟩ = some d :=
  ⟨cell_below hB (by rw [World.cell?_alloc_mark]; rfl), cell_below hB (by rw [World.cell?_alloc_mark]; rfl), cell_below hB (by rw [World.cell?_alloc_mark]; rfl), cell_below hB (by rw [World.cell?_alloc_mark]; rfl)⟩
theorem item_row {w w1 : World} {o : Obj} (hB : Below (w.alloc o).heap.size (w.alloc o) w1) : w1.heap[w.heap.size]? = some o := by
  rw [hB.block _ (by simp)]
  exact heap_alloc_new w o
theorem below_new {w w1 : World} {o : Obj} (hB : Below (w.alloc o).heap.size (w.alloc o) w1) : Below w.heap.size w w1 :=
  below_then ((Below.refl w.heap.size w).alloc (Nat.le_refl _) _) (by simp) hB
theorem item_cells2 {W : World} {g : Nat} {a b c d : Value} {fr : Nat × Nat} {T : TypeId} (hh : W.heap[g]? = some (.cells #[a, b, c, d] T fr)) :
    W.cell? ⟨g, 0, none⟩ = some a ∧ W.cell? ⟨g, 1, none⟩ = some b ∧ W.cell? ⟨g, 2, none⟩ = some c ∧ W.cell? ⟨g, 3, none⟩ = some d :=
  ⟨by rw [cell_of_row _ _ _ _ _ _ hh]; rfl, by rw [cell_of_row _ _ _ _ _ _ hh]; rfl, by rw [cell_of_row _ _ _ _ _ _ hh]; rfl, by rw [cell_of_row _ _ _ _ _ _ hh]; rfl⟩
theorem row_below {w w1 : World} {g : Nat} {o : Obj} (h : w.heap[g]? = some o) (hB : Below w.heap.size w w1) : w1.heap[g]? = some o := by
  rw [hB.block _ (Array.getElem?_eq_some_iff.1 h).1]
  exact h
/-- A boxed item, some steps on. -/
structure IRow (w : World) (a b c d : Value) (T : TypeId) (W : World) : Prop where
  row : W.heap[w.heap.size]? = some (.cells #[a, b, c, d] T)
  bel : Below w.heap.size w W
theorem IRow.mk0 {w w1 : World} {a b c d : Value} {T : TypeId} (hB : Below (w.alloc (.cells #[a, b, c, d] T)).heap.size (w.alloc (.cells #[a, b, c, d] T)) w1) : IRow w a b c d T w1 :=
  ⟨item_row hB, below_new hB⟩
theorem IRow.step {w W W1 : World} {a b c d : Value} {T : TypeId} (h : IRow w a b c d T W) (hB : Below W.heap.size W W1) : IRow w a b c d T W1 :=
  ⟨row_below h.row hB, below_then h.bel h.bel.size hB⟩
theorem IRow.thaw {w W : World} {a b c d : Value} {T : TypeId} (h : IRow w a b c d T W) (j : Nat) : W.frozen? ⟨w.heap.size, j, none⟩ = false := by simp [World.frozen?, h.row]
theorem IRow.cells {w W : World} {a b c d : Value} {T : TypeId} (h : IRow w a b c d T W) : W.cell? ⟨w.heap.size, 0, none⟩ = some a ∧ W.cell? ⟨w.heap.size, 1, none⟩ = some b ∧ W.cell? ⟨w.heap.size, 2, none⟩ = some c ∧ W.cell? ⟨w.heap.size, 3, none⟩ = some d := by
  exact item_cells2 h.row
def farB (nv : Nat) (r : Int) : Bool := !decide (r = 0) || decide (32 < (nv : Int))
def longI (nv : Nat) (s r : Int) : Int := if r = 0 then (nv : Int) else s
def kidI (g : Int) (nk : Nat) : Int := if genB g = true then 1 + (nk : Int) + iwI g else 0
def roomI (g : Int) (nk nv : Nat) (r : Int) : Int := if genB g = true then (if farB nv r = true then 4 + (nk : Int) + iwI g else 4 + (nk : Int) + (nv : Int)) else 0
/-- Which items may be. -/
def rightB (g : Int) (nk nv : Nat) (s r : Int) : Bool := decide (whyI g nk nv = 0 ∧ longI nv s r ≤ mvI g) && (if r = 0 then decide (s = 0) else decide (2 ≤ r ∧ r < 16384 ∧ 32 < s ∧ nv = 0))
end Go.Proofs.Ytenibcbodjkglaa
