/- Two slices of bytes in an array, and two numbers in one, among the arguments, opened. -/
import Derived.Test.YtbjfklgmbeaaoaaZ6
set_option linter.unusedVariables false
set_option linter.unusedSimpArgs false
namespace Go.Proofs.Ytbjfklgmbeaaoaa
open Go.ChangeShapes Go.WideShapes Go.ChangeAt Go.RowKit Go.Joins Go.Deep

theorem rc_list2 {α : Type} {l : List α} (h : l.length = 2) : ∃ c0 c1, l = [c0, c1] := by
  match l, h with
  | [c0, c1], _ => exact ⟨c0, c1, rfl⟩
set_option maxRecDepth 100000 in
theorem pair8_open {H : Type} {enc : TypeId × Value → H} {W : World} {base b0 : Nat} {spare : Nat → Bool} {held : Bool} {r : Reach} {v : Value} {d : DataW H} {ps : List MemPlace}
    (hv : Value.okWide Try.prog W r b0 48 v) (h : DataW.Trod enc Try.prog W base spare held 48 v d ps) (hw : ∀ q ∈ d.weights Try.prog 48, q ≤ reachBytes) :
    ∃ A n c xs B m e ys, v = .agg #[.slice A n c, .slice B m e] ∧ Bs W A n c xs ∧ Bs W B m e ys := by
  have hv' := hv
  simp only [Value.okWide, Try.underlying48] at hv'
  obtain ⟨cs, rfl, hsz, _⟩ := hv'
  have hC : Try.prog.cellsOf 48 = 2 := by kernel_rfl
  have hI : Try.prog.cellsOf 27 = 1 := by kernel_rfl
  obtain ⟨l⟩ := cs
  obtain ⟨c0, c1, rfl⟩ := rc_list2 (l := l) (hsz.trans hC)
  obtain ⟨fuel, hf⟩ := h
  obtain ⟨xs, m, _, hx, _, hlen, hg⟩ := DataW.trod_array Try.underlying48 hf
  simp only [Prod.mk.injEq] at hx
  obtain ⟨rfl, _⟩ := hx
  obtain ⟨x0, x1, rfl⟩ := rc_list2 hlen
  rw [hI] at hg
  have hw' : ∀ (j : Nat) (d : DataW H), [x0.1, x1.1][j]? = some d → ∀ q ∈ d.weights Try.prog 27, q ≤ reachBytes := by
    intro j d hd q hq
    refine hw q ?_
    simp only [DataW.weights, Try.underlying48]
    exact weightsAll_mem (j := j) hd q hq
  obtain ⟨A, n, c, xs, e0, h0⟩ := bs_of_fuel (v := c0) (x := x0) (by simpa [Value.cells] using hg 0 (by omega)) (hw' 0 _ rfl)
  obtain ⟨B, k, e, ys, e1, h1⟩ := bs_of_fuel (v := c1) (x := x1) (by simpa [Value.cells] using hg 1 (by omega)) (hw' 1 _ rfl)
  subst e0 e1
  exact ⟨A, n, c, xs, B, k, e, ys, rfl, h0, h1⟩
set_option maxRecDepth 100000 in
theorem int2_open {H : Type} {enc : TypeId × Value → H} {W : World} {base b0 : Nat} {spare : Nat → Bool} {held : Bool} {r : Reach} {v : Value} {d : DataW H} {ps : List MemPlace}
    (hv : Value.okWide Try.prog W r b0 42 v) (h : DataW.Trod enc Try.prog W base spare held 42 v d ps) :
    ∃ a b, v = .agg #[.int .i64 a, .int .i64 b] ∧ (-9223372036854775808 ≤ a ∧ a ≤ 9223372036854775807) ∧ (-9223372036854775808 ≤ b ∧ b ≤ 9223372036854775807) := by
  have hv' := hv
  simp only [Value.okWide, Try.underlying42] at hv'
  obtain ⟨cs, rfl, hsz, _⟩ := hv'
  have hC : Try.prog.cellsOf 42 = 2 := by kernel_rfl
  have hI : Try.prog.cellsOf 3 = 1 := by kernel_rfl
  obtain ⟨l⟩ := cs
  obtain ⟨c0, c1, rfl⟩ := rc_list2 (l := l) (hsz.trans hC)
  obtain ⟨fuel, hf⟩ := h
  obtain ⟨xs, m, _, hx, _, hlen, hg⟩ := DataW.trod_array Try.underlying42 hf
  obtain ⟨x0, x1, rfl⟩ := rc_list2 hlen
  rw [hI] at hg
  have g0 : DataW.trod enc Try.prog W base spare held m 3 [c0] = some x0 := by simpa [Value.cells] using hg 0 (by omega)
  have g1 : DataW.trod enc Try.prog W base spare held m 3 [c1] = some x1 := by simpa [Value.cells] using hg 1 (by omega)
  obtain ⟨i0, e0, _, w0⟩ := DataW.trod_int Try.underlying3 g0
  obtain ⟨i1, e1, _, w1⟩ := DataW.trod_int Try.underlying3 g1
  simp only [List.cons.injEq, and_true] at e0 e1
  subst e0 e1
  exact ⟨i0, i1, rfl, int_bounds w0, int_bounds w1⟩
end Go.Proofs.Ytbjfklgmbeaaoaa
