/- How a meta is written (Way), among the arguments, opened. -/
import Derived.Test.YthhalmjapiempaaR8
set_option linter.unusedVariables false
set_option linter.unusedSimpArgs false
namespace Go.Proofs.Ythhalmjapiempaa
open Go.ChangeShapes Go.WideShapes Go.ChangeAt Go.RowKit Go.Joins Go.Deep

set_option maxRecDepth 100000 in
theorem way_open {H : Type} {enc : TypeId × Value → H} {W : World} {base b0 : Nat} {spare : Nat → Bool} {held : Bool} {r : Reach} {v : Value} {d : DataW H} {ps : List MemPlace}
    (hv : Value.okWide Try.prog W r b0 44 v) (h : DataW.Trod enc Try.prog W base spare held 44 v d ps) (hw : ∀ q ∈ d.weights Try.prog 44, q ≤ reachBytes) :
    ∃ ge ph tg tx rt pg li A n c xs fm lm fu, v = .agg #[.int .i64 ge, .int .i64 ph, .int .i64 tg, .int .i64 tx, .int .i64 rt, .int .i64 pg, .int .i64 li, .slice A n c, .bool fm, .int .i64 lm, .int .i64 fu] ∧ Bs W A n c xs ∧ (-9223372036854775808 ≤ lm ∧ lm ≤ 9223372036854775807) ∧ (-9223372036854775808 ≤ fu ∧ fu ≤ 9223372036854775807) := by
  obtain ⟨cs, rfl, hsz⟩ := okWide_struct Try.underlying44 hv
  have hC : Try.prog.cellsOf 44 = 11 := by kernel_rfl
  obtain ⟨l⟩ := cs
  obtain ⟨c0, c1, c2, c3, c4, c5, c6, c7, c8, c9, c10, rfl⟩ := list11 (l := l) (hsz.trans hC)
  obtain ⟨fuel, hf⟩ := h
  have ci : Try.prog.cellsOf 3 = 1 := by kernel_rfl
  have cb : Try.prog.cellsOf 4 = 1 := by kernel_rfl
  have cm : Try.prog.cellsOf 24 = 8 := by kernel_rfl
  obtain ⟨ys, n, _, hx, _, hlen, hg⟩ := DataW.trod_struct Try.underlying44 hf
  obtain ⟨y0, y1, y2, y3, rfl⟩ := list4 (l := ys) hlen
  simp only [Prod.mk.injEq] at hx
  obtain ⟨hd, _⟩ := hx
  subst hd
  have g0 : DataW.trod enc Try.prog W base spare held n 24 [c0, c1, c2, c3, c4, c5, c6, c7] = some y0 := by simpa [Value.cells, ci, cb, cm] using hg 0 _ rfl
  have g1 : DataW.trod enc Try.prog W base spare held n 4 [c8] = some y1 := by simpa [Value.cells, ci, cb, cm] using hg 1 _ rfl
  have g2 : DataW.trod enc Try.prog W base spare held n 3 [c9] = some y2 := by simpa [Value.cells, ci, cb, cm] using hg 2 _ rfl
  have g3 : DataW.trod enc Try.prog W base spare held n 3 [c10] = some y3 := by simpa [Value.cells, ci, cb, cm] using hg 3 _ rfl
  have hw' : ∀ (j : Nat) (t : TypeId) (d : DataW H), [24, 4, 3, 3][j]? = some t → [y0.1, y1.1, y2.1, y3.1][j]? = some d → ∀ q ∈ d.weights Try.prog t, q ≤ reachBytes := by
    intro j t d ht hd q hq
    refine hw q ?_
    simp only [DataW.weights, Try.underlying44]
    exact DataW.weights_mem_each (j := j) ht hd q hq
  obtain ⟨ge, ph, tg, tx, rt, pg, li, A, m, c, xs, e1, hb1⟩ := meta_fuel g0 (hw' 0 _ _ rfl rfl)
  obtain ⟨fm, e8, _⟩ := DataW.trod_bool Try.underlying4 g1
  obtain ⟨lm, e9, _, wl⟩ := DataW.trod_int Try.underlying3 g2
  obtain ⟨fu, e10, _, wf⟩ := DataW.trod_int Try.underlying3 g3
  simp only [List.cons.injEq, and_true] at e1 e8 e9 e10
  obtain ⟨f1, f2, f3, f4, f5, f6, f7, f8⟩ := e1
  subst e8 e9 e10 f1 f2 f3 f4 f5 f6 f7 f8
  exact ⟨ge, ph, tg, tx, rt, pg, li, A, m, c, xs, fm, lm, fu, rfl, hb1, int_bounds wl, int_bounds wf⟩
end Go.Proofs.Ythhalmjapiempaa
