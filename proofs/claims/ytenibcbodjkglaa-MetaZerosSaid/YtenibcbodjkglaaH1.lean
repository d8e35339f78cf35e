/- The walks of regaugeref03's small functions: room, Take, Skip, Writer. -/
import Derived.Test.YtenibcbodjkglaaL03a
set_option linter.unusedVariables false
set_option linter.unusedSimpArgs false
namespace Go.Proofs.Ytenibcbodjkglaa
open Go.RowKit

/-- The document's state, as a value. -/
def stV (A : Option Addr) (n c a : Nat) (sp : Bool) : Value := .agg #[.slice A n c, .int .i64 (a : Int), .bool sp]
def roomB (n a : Nat) (sp : Bool) (m : Int) : Bool := decide (sp = false ∧ 0 ≤ m ∧ m ≤ (n : Int) - (a : Int))
theorem Ow.keptb {w w1 : World} {base n c : Nat} {A : Option Addr} {xs : List UInt8} (h : Ow w base A n c xs) (hb : ∀ g, base ≤ g → g < w.heap.size → w1.heap[g]? = w.heap[g]?) : Ow w1 base A n c xs := by
  refine ⟨⟨h.row.1, ?_⟩, h.lim⟩
  rcases h.row.2 with hn | ⟨g, cap, cur, hv, hg, hh, rest⟩
  · exact .inl hn
  · exact .inr ⟨g, cap, cur, hv, hg, by rw [hb g hg (Array.getElem?_eq_some_iff.1 hh).1]; exact hh, rest⟩
theorem Ow.setc {w : World} {base n c g j : Nat} {A : Option Addr} {xs : List UInt8} (v : Value) (h : Ow w base A n c xs) (hg : g < base) : Ow (w.setCell ⟨g, j, none⟩ v) base A n c xs :=
  h.keptb fun k hk _ => Below.heap_setCell _ _ _ _ (show k ≠ g by omega)
theorem below_set {B g j : Nat} {w W : World} (v : Value) (h : Below B w W) (hg : B ≤ g) : Below B w (W.setCell ⟨g, j, none⟩ v) := h.setCell (p := ⟨g, j, none⟩) hg v
/-- Three cells of a row, stored one by one. -/
theorem row3_set {W : World} {g : Nat} {T : TypeId} {x y z : Value} (a b c : Value) (h : W.heap[g]? = some (.cells #[x, y, z] T)) :
    (((W.setCell ⟨g, 0, none⟩ a).setCell ⟨g, 1, none⟩ b).setCell ⟨g, 2, none⟩ c).heap[g]? = some (.cells #[a, b, c] T) := by
  have h1 := heap_setCell_same W g 0 _ _ a h
  have h2 := heap_setCell_same _ g 1 _ _ b h1
  have h3 := heap_setCell_same _ g 2 _ _ c h2
  exact h3
theorem row3_cells {W : World} {g : Nat} {T : TypeId} {x y z : Value} (h : W.heap[g]? = some (.cells #[x, y, z] T)) :
    W.cell? ⟨g, 0, none⟩ = some x ∧ W.cell? ⟨g, 1, none⟩ = some y ∧ W.cell? ⟨g, 2, none⟩ = some z ∧ ∀ j, W.frozen? ⟨g, j, none⟩ = false :=
  ⟨by rw [cell_of_row _ _ _ _ _ _ h]; rfl, by rw [cell_of_row _ _ _ _ _ _ h]; rfl, by rw [cell_of_row _ _ _ _ _ _ h]; rfl, fun j => by simp [World.frozen?, h]⟩
/-- Where the place is behind so many bytes. -/
def skA (n a : Nat) (sp : Bool) (m : Int) : Nat := if roomB n a sp m = true then a + m.toNat else a
theorem skA_le {n a : Nat} {sp : Bool} {m : Int} (ha : a ≤ n) : skA n a sp m ≤ n := by
  unfold skA
  split
  · rename_i h
    have := of_decide_eq_true h
    omega
  · exact ha

end Go.Proofs.Ytenibcbodjkglaa
