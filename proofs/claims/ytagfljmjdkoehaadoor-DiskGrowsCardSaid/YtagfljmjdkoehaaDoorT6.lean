/- A slice of ints among the arguments, opened. -/
import Derived.Test.YtagfljmjdkoehaaDoorZD
import Derived.Test.YtagfljmjdkoehaaDoorT4
set_option linter.unusedVariables false
set_option linter.unusedSimpArgs false
namespace Go.Proofs.YtagfljmjdkoehaaDoor
open Go.ChangeShapes Go.WideShapes Go.ChangeAt Go.RowKit

theorem is_of_trod {H : Type} {enc : TypeId × Value → H} {W : World} {base : Nat} {spare : Nat → Bool} {held : Bool} {a : Option Addr} {len cap : Nat} {d : DataW H} {ps : List MemPlace}
    (h : DataW.Trod enc Tryd.prog W base spare held 37 (.slice a len cap) d ps) : ∃ zs, Is W a len cap zs ∧ ∀ j, j < len → -9223372036854775808 ≤ zs.getD j 0 ∧ zs.getD j 0 ≤ 9223372036854775807 := by
  obtain ⟨fuel, hf⟩ := h
  rcases open_ints Tryd.underlying37 Tryd.underlying3 (by kernel_rfl) hf with ⟨hcs, _⟩ | ⟨x, l, c, zs, hcs, _, hlc, hm, hz, _, hcell, hwz⟩
  · simp [Value.cells] at hcs
    obtain ⟨rfl, rfl, rfl⟩ := hcs
    exact ⟨[], ⟨rfl, fun j hj => absurd hj (by omega)⟩, fun j hj => absurd hj (by omega)⟩
  · simp [Value.cells] at hcs
    obtain ⟨rfl, rfl, rfl⟩ := hcs
    have hz' : len ≤ zs.length := by
      rw [hz]
      split
      · exact hlc
      · exact Nat.le_refl _
    have hget : ∀ j, j < len → (zs.take len).getD j 0 = zs.getD j 0 := fun j hj => by
      simp only [List.getD_eq_getElem?_getD]
      rw [List.getElem?_take_of_lt hj]
    refine ⟨zs.take len, ⟨by simp; omega, fun j hj => ⟨x, rfl, ?_⟩⟩, fun j hj => ?_⟩
    · rw [hget j hj, hcell j (by omega)]
    · rw [hget j hj]
      have hj' : j < zs.length := by omega
      have hw := hwz _ (List.getElem_mem hj')
      have := int_bounds hw
      simpa [List.getD_eq_getElem?_getD, List.getElem?_eq_getElem hj'] using this
end Go.Proofs.YtagfljmjdkoehaaDoor
