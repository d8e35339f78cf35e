/- The document's disk: Do where it reads; Newest. -/
import Derived.Test.YthhalmjapiempaaS2
import Derived.Test.YthhalmjapiempaaN2
import Derived.Test.YthhalmjapiempaaZC
set_option linter.unusedVariables false
set_option linter.unusedSimpArgs false
namespace Go.Proofs.Ythhalmjapiempaa
open Go.RowKit

theorem row5_cells8 {W : World} {g : Nat} {T : TypeId} {a b c d e : Value} (k : W.heap[g]? = some (.cells #[a, b, c, d, e] T)) :
    W.cell? ⟨g, 0, none⟩ = some a ∧ W.cell? ⟨g, 1, none⟩ = some b ∧ W.cell? ⟨g, 2, none⟩ = some c ∧ W.cell? ⟨g, 3, none⟩ = some d ∧ W.cell? ⟨g, 4, none⟩ = some e :=
  ⟨by rw [cell_of_row _ _ _ _ _ _ k]; rfl, by rw [cell_of_row _ _ _ _ _ _ k]; rfl, by rw [cell_of_row _ _ _ _ _ _ k]; rfl, by rw [cell_of_row _ _ _ _ _ _ k]; rfl, by rw [cell_of_row _ _ _ _ _ _ k]; rfl⟩
theorem heap3 (w : World) (a b c : Obj) : (((w.alloc a).alloc b).alloc c).heap[w.heap.size]? = some a ∧ (((w.alloc a).alloc b).alloc c).heap[w.heap.size + 1]? = some b ∧ (((w.alloc a).alloc b).alloc c).heap[w.heap.size + 1 + 1]? = some c ∧ Below w.heap.size w (((w.alloc a).alloc b).alloc c) := by
  refine ⟨?_, ?_, ?_, (((Below.refl _ w).alloc (Nat.le_refl _) a).alloc (by simp) b).alloc (by simp; omega) c⟩
  · exact ((((Below.refl _ (w.alloc a)).alloc (Nat.le_refl _) b).alloc (by simp) c).block _ (by simp)).trans (heap_alloc_new w a)
  · have := heap_alloc_new (w.alloc a) b
    rw [show (w.alloc a).heap.size = w.heap.size + 1 by simp] at this
    exact (((Below.refl _ ((w.alloc a).alloc b)).alloc (Nat.le_refl _) c).block _ (by simp)).trans this
  · have := heap_alloc_new ((w.alloc a).alloc b) c
    rwa [show ((w.alloc a).alloc b).heap.size = w.heap.size + 1 + 1 by simp] at this
end Go.Proofs.Ythhalmjapiempaa
