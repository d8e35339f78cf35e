/- A page's head among the arguments, opened. -/
import Derived.Test.YtbjfklgmbeaaoaaZ6
import Derived.Lib.SmallJoins
set_option linter.unusedVariables false
set_option linter.unusedSimpArgs false
namespace Go.Proofs.Ytbjfklgmbeaaoaa
open Go.ChangeShapes Go.WideShapes Go.ChangeAt Go.RowKit Go.Joins Go.Deep

theorem listH4 {α : Type} {l : List α} (h : l.length = 4) : ∃ c0 c1 c2 c3, l = [c0, c1, c2, c3] := by
  match l, h with
  | [c0, c1, c2, c3], _ => exact ⟨c0, c1, c2, c3, rfl⟩
set_option maxRecDepth 100000 in
theorem head_open {H : Type} {enc : TypeId × Value → H} {W : World} {base b0 : Nat} {spare : Nat → Bool} {held : Bool} {r : Reach} {v : Value} {d : DataW H} {ps : List MemPlace}
    (hv : Value.okWide Try.prog W r b0 56 v) (h : DataW.Trod enc Try.prog W base spare held 56 v d ps) :
    ∃ k g ct nx, v = .agg #[.int .i64 k, .int .i64 g, .int .i64 ct, .int .i64 nx] ∧ (-9223372036854775808 ≤ ct ∧ ct ≤ 9223372036854775807) ∧ (-9223372036854775808 ≤ nx ∧ nx ≤ 9223372036854775807) := by
  obtain ⟨cs, rfl, hsz⟩ := okWide_struct Try.underlying56 hv
  have hC : Try.prog.cellsOf 56 = 4 := by kernel_rfl
  obtain ⟨l⟩ := cs
  obtain ⟨c0, c1, c2, c3, rfl⟩ := listH4 (l := l) (hsz.trans hC)
  obtain ⟨fuel, hf⟩ := h
  have ci : Try.prog.cellsOf 3 = 1 := by kernel_rfl
  obtain ⟨ys, n, _, hx, _, hlen, hg⟩ := DataW.trod_struct Try.underlying56 hf
  obtain ⟨y0, y1, y2, y3, rfl⟩ := listH4 (l := ys) hlen
  have g0 : DataW.trod enc Try.prog W base spare held n 3 [c0] = some y0 := by simpa [Value.cells, ci] using hg 0 _ rfl
  have g1 : DataW.trod enc Try.prog W base spare held n 3 [c1] = some y1 := by simpa [Value.cells, ci] using hg 1 _ rfl
  have g2 : DataW.trod enc Try.prog W base spare held n 3 [c2] = some y2 := by simpa [Value.cells, ci] using hg 2 _ rfl
  have g3 : DataW.trod enc Try.prog W base spare held n 3 [c3] = some y3 := by simpa [Value.cells, ci] using hg 3 _ rfl
  obtain ⟨i0, e0, _, _⟩ := DataW.trod_int Try.underlying3 g0
  obtain ⟨i1, e1, _, _⟩ := DataW.trod_int Try.underlying3 g1
  obtain ⟨i2, e2, _, w2⟩ := DataW.trod_int Try.underlying3 g2
  obtain ⟨i3, e3, _, w3⟩ := DataW.trod_int Try.underlying3 g3
  simp only [List.cons.injEq, and_true] at e0 e1 e2 e3
  subst e0 e1 e2 e3
  exact ⟨i0, i1, i2, i3, rfl, int_bounds w2, int_bounds w3⟩
end Go.Proofs.Ytbjfklgmbeaaoaa
