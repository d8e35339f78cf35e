/- The walks of item.Of and item.Same. -/
import Derived.Test.YtenibcbodjkglaaI3
import Derived.Test.YtenibcbodjkglaaC1
set_option linter.unusedVariables false
set_option linter.unusedSimpArgs false
namespace Go.Proofs.Ytenibcbodjkglaa
open Go.RowKit

theorem Ow.kept' {w w1 : World} {base n c : Nat} {A : Option Addr} {xs : List UInt8} (h : Ow w base A n c xs) (hb : ∀ g, base ≤ g → g < w.heap.size → w1.heap[g]? = w.heap[g]?) : Ow w1 base A n c xs := by
  refine ⟨⟨h.row.1, ?_⟩, h.lim⟩
  rcases h.row.2 with hn | ⟨g, cap, cur, hv, hg, hh, rest⟩
  · exact .inl hn
  · exact .inr ⟨g, cap, cur, hv, hg, by rw [hb g hg (Array.getElem?_eq_some_iff.1 hh).1]; exact hh, rest⟩
theorem set4 {w : World} {g k i0 i1 i2 i3 : Nat} {a b c d : Value} (h : g ≠ k) : ((((w.setCell ⟨k, i0, none⟩ a).setCell ⟨k, i1, none⟩ b).setCell ⟨k, i2, none⟩ c).setCell ⟨k, i3, none⟩ d).heap[g]? = w.heap[g]? := by
  rw [Below.heap_setCell _ _ _ _ h, Below.heap_setCell _ _ _ _ h, Below.heap_setCell _ _ _ _ h, Below.heap_setCell _ _ _ _ h]
def sameB (xs ys xs' ys' : List UInt8) (s r s' r' : Int) : Bool := decide (xs = xs' ∧ ys = ys' ∧ s = s' ∧ r = r')
theorem seq_t {xs ys : List UInt8} (h : xs = ys) : (xs == ys) = true := beq_iff_eq.mpr h
theorem seq_f {xs ys : List UInt8} (h : ¬ xs = ys) : (xs == ys) = false := beq_eq_false_iff_ne.mpr h
end Go.Proofs.Ytenibcbodjkglaa
