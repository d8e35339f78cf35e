/- Small words for the rows: a slice of bytes out of an argument's reading. A slice of slices of bytes: read, and opened out of an argument's reading. A meta among the arguments, opened; four truths in an array, opened. -/
import Derived.Test.YthhalmjapiempaaZ1
import Derived.WalkKit
import Derived.ProofKit
import Derived.OpenShut
import Derived.ShutString
import Derived.ChangeOld
import Derived.Below
import Derived.SizedLaws
import Derived.Deep.Slices
import Derived.Lib.SmallJoins
set_option linter.unusedVariables false
set_option linter.unusedSimpArgs false
namespace Go.Proofs.Ythhalmjapiempaa
open Go.ChangeShapes Go.WideShapes Go.ChangeAt Go.RowKit

theorem bs_of_trod {H : Type} {enc : TypeId × Value → H} {W : World} {base : Nat} {spare : Nat → Bool} {held : Bool} {a : Option Addr} {len cap : Nat} {d : DataW H} {ps : List MemPlace}
    (h : DataW.Trod enc Try.prog W base spare held 22 (.slice a len cap) d ps) (hl : len ≤ 140737488355328) : ∃ xs, Bs W a len cap xs := by
  obtain ⟨fuel, hf⟩ := h
  rcases open_ints Try.underlying22 Try.underlying5 (by kernel_rfl) hf with ⟨hcs, _⟩ | ⟨x, l, c, zs, hcs, _, hlc, hm, hz, _, hcell, hwz⟩
  · simp [Value.cells] at hcs
    obtain ⟨rfl, rfl, rfl⟩ := hcs
    exact ⟨[], Bs.nil _ _ _ (by omega)⟩
  · simp [Value.cells] at hcs
    obtain ⟨rfl, rfl, rfl⟩ := hcs
    have hz' : len ≤ zs.length := by
      rw [hz]
      split
      · exact hlc
      · exact Nat.le_refl _
    refine ⟨(zs.take len).map fun z => UInt8.ofNat z.toNat, by simp; omega, hlc, by simpa [maxLen] using hm, hl, fun _ => ⟨x, rfl, fun j hj => ?_⟩⟩
    rw [hcell j (by omega)]
    have hj' : j < zs.length := by omega
    have hw := hwz _ (List.getElem_mem hj')
    have hb : 0 ≤ zs[j] ∧ zs[j] ≤ 255 := bounds_u8 hw
    simp [b8, List.getD_eq_getElem?_getD, hj, List.getElem?_eq_getElem hj']
    omega

theorem int_bounds {x : Int} (h : (Lit.int .i64 x).wf = true) : -9223372036854775808 ≤ x ∧ x ≤ 9223372036854775807 := bounds_i64 h

end Go.Proofs.Ythhalmjapiempaa

set_option linter.unusedVariables false
set_option linter.unusedSimpArgs false
namespace Go.Proofs.Ythhalmjapiempaa
open Go.ChangeShapes Go.WideShapes Go.ChangeAt Go.RowKit

theorem weightsAll_mem {H : Type} {P : Program} {e : TypeId} : ∀ {ds : List (DataW H)} {j : Nat} {d : DataW H}, ds[j]? = some d → ∀ n ∈ d.weights P e, n ∈ DataW.weightsAll P e ds
  | d0 :: ds, 0, d, hd, n, hn => by
    simp only [List.getElem?_cons_zero, Option.some.injEq] at hd
    subst hd
    simp only [DataW.weightsAll, List.mem_append]
    exact Or.inl hn
  | d0 :: ds, j + 1, d, hd, n, hn => by
    simp only [List.getElem?_cons_succ] at hd
    simp only [DataW.weightsAll, List.mem_append]
    exact Or.inr (weightsAll_mem hd n hn)
  | [], _, _, hd, _, _ => by simp at hd
theorem bs_of_fuel {H : Type} {enc : TypeId × Value → H} {W : World} {base fuel : Nat} {spare : Nat → Bool} {held : Bool} {v : Value} {x : DataW H × List MemPlace}
    (h : DataW.trod enc Try.prog W base spare held fuel 22 [v] = some x) (hw : ∀ q ∈ x.1.weights Try.prog 22, q ≤ reachBytes) : ∃ B m d xs, v = .slice B m d ∧ Bs W B m d xs := by
  have h' := h
  rcases open_ints Try.underlying22 Try.underlying5 (by kernel_rfl) h with ⟨hcs, _⟩ | ⟨y, l, c, zs, hcs, _, hlc, hm, hz, hx, hcell, hwz⟩
  · simp only [List.cons.injEq, and_true] at hcs
    subst hcs
    exact ⟨none, 0, 0, [], rfl, Bs.nil _ _ _ (by omega)⟩
  · simp only [List.cons.injEq, and_true] at hcs
    subst hcs
    have hz' : l ≤ zs.length := by
      rw [hz]
      split
      · exact hlc
      · exact Nat.le_refl _
    have hb1 : Try.prog.bytesOf 5 = 1 := by kernel_rfl
    have hl : l ≤ 140737488355328 := by
      rw [hx] at hw
      have := hw (((lits (H := H) .u8 (zs.take l)).length + (lits (H := H) .u8 (zs.drop l)).length) * Try.prog.bytesOf 5) (by simp [DataW.weights, Try.underlying22])
      rw [hb1] at this
      simp [lits, reachBytes] at this
      omega
    obtain ⟨xs, hxs⟩ := bs_of_trod (enc := enc) ⟨fuel, by simpa [Value.cells] using h'⟩ hl
    exact ⟨_, _, _, xs, rfl, hxs⟩
end Go.Proofs.Ythhalmjapiempaa

set_option linter.unusedVariables false
set_option linter.unusedSimpArgs false
namespace Go.Proofs.Ythhalmjapiempaa
open Go.ChangeShapes Go.WideShapes Go.ChangeAt Go.RowKit Go.Joins Go.Deep

theorem list8 {α : Type} {l : List α} (h : l.length = 8) : ∃ c0 c1 c2 c3 c4 c5 c6 c7, l = [c0, c1, c2, c3, c4, c5, c6, c7] := by
  match l, h with
  | [c0, c1, c2, c3, c4, c5, c6, c7], _ => exact ⟨c0, c1, c2, c3, c4, c5, c6, c7, rfl⟩
theorem list4 {α : Type} {l : List α} (h : l.length = 4) : ∃ c0 c1 c2 c3, l = [c0, c1, c2, c3] := by
  match l, h with
  | [c0, c1, c2, c3], _ => exact ⟨c0, c1, c2, c3, rfl⟩
end Go.Proofs.Ythhalmjapiempaa
