/- Four items in an array among the arguments, opened. -/
import Derived.Test.YtaoaenjhclicfaaR2
set_option linter.unusedVariables false
set_option linter.unusedSimpArgs false
namespace Go.Proofs.Ytaoaenjhclicfaa
open Go.ChangeShapes Go.WideShapes Go.ChangeAt Go.RowKit Go.Joins Go.Deep

set_option maxRecDepth 100000 in
theorem item_fuel {H : Type} {enc : TypeId × Value → H} {W : World} {base m : Nat} {spare : Nat → Bool} {held : Bool} {c0 c1 c2 c3 : Value} {x : DataW H × List MemPlace}
    (h : DataW.trod enc Try.prog W base spare held m 38 [c0, c1, c2, c3] = some x) (hw : ∀ q ∈ x.1.weights Try.prog 38, q ≤ reachBytes) :
    ∃ Ak nk ck Av nv cv s t, [c0, c1, c2, c3] = [.slice Ak nk ck, .slice Av nv cv, .int .i64 s, .int .i64 t] ∧ nk ≤ 140737488355328 ∧ nv ≤ 140737488355328 := by
  obtain ⟨y0, y1, y2, y3, n, hx, _, h0, h1, h2, h3⟩ := trod_struct4 Try.underlying38 h
  have hw' : ∀ (j : Nat) (t : TypeId) (d : DataW H), [22, 22, 3, 3][j]? = some t → [y0.1, y1.1, y2.1, y3.1][j]? = some d → ∀ q ∈ d.weights Try.prog t, q ≤ reachBytes := by
    intro j t d ht hd q hq
    refine hw q ?_
    rw [hx]
    simp only [DataW.weights, Try.underlying38]
    exact DataW.weights_mem_each (j := j) ht hd q hq
  have k1 : Try.prog.cellsOf 22 = 1 := by kernel_rfl
  have k3 : Try.prog.cellsOf 3 = 1 := by kernel_rfl
  have g0 : DataW.trod enc Try.prog W base spare held n 22 [c0] = some y0 := by simpa [k1] using h0
  have g1 : DataW.trod enc Try.prog W base spare held n 22 [c1] = some y1 := by simpa [k1] using h1
  have g2 : DataW.trod enc Try.prog W base spare held n 3 [c2] = some y2 := by simpa [k3] using h2
  have g3 : DataW.trod enc Try.prog W base spare held n 3 [c3] = some y3 := by simpa [k3] using h3
  obtain ⟨Ak, nk, ck, xs, rfl, hb0⟩ := bs_of_fuel g0 (hw' 0 _ _ rfl rfl)
  obtain ⟨Av, nv, cv, ys, rfl, hb1⟩ := bs_of_fuel g1 (hw' 1 _ _ rfl rfl)
  obtain ⟨s, hs, _, ws⟩ := DataW.trod_int Try.underlying3 g2
  obtain ⟨t, ht, _, wt⟩ := DataW.trod_int Try.underlying3 g3
  simp only [List.cons.injEq, and_true] at hs ht
  subst hs
  subst ht
  exact ⟨Ak, nk, ck, Av, nv, cv, s, t, rfl, hb0.lim, hb1.lim⟩
def of4 {α : Type} (a b c d : α) : Nat → α
  | 0 => a
  | 1 => b
  | 2 => c
  | _ => d
set_option maxRecDepth 100000 in
theorem four_open {H : Type} {enc : TypeId × Value → H} {W : World} {base b0 : Nat} {spare : Nat → Bool} {held : Bool} {r : Reach} {v : Value} {d : DataW H} {ps : List MemPlace}
    (hv : Value.okWide Try.prog W r b0 74 v) (h : DataW.Trod enc Try.prog W base spare held 74 v d ps) (hw : ∀ q ∈ d.weights Try.prog 74, q ≤ reachBytes) :
    ∃ (Ak : Nat → Option Addr) (nk ck : Nat → Nat) (Av : Nat → Option Addr) (nv cv : Nat → Nat) (s r : Nat → Int), v = .agg #[.slice (Ak 0) (nk 0) (ck 0), .slice (Av 0) (nv 0) (cv 0), .int .i64 (s 0), .int .i64 (r 0), .slice (Ak 1) (nk 1) (ck 1), .slice (Av 1) (nv 1) (cv 1), .int .i64 (s 1), .int .i64 (r 1), .slice (Ak 2) (nk 2) (ck 2), .slice (Av 2) (nv 2) (cv 2), .int .i64 (s 2), .int .i64 (r 2), .slice (Ak 3) (nk 3) (ck 3), .slice (Av 3) (nv 3) (cv 3), .int .i64 (s 3), .int .i64 (r 3)] ∧
      (∀ j, j < 4 → nk j ≤ 140737488355328) ∧ (∀ j, j < 4 → nv j ≤ 140737488355328) := by
  have hv' := hv
  simp only [Value.okWide, Try.underlying74] at hv'
  obtain ⟨cs, rfl, hsz, _⟩ := hv'
  obtain ⟨l⟩ := cs
  have hC : Try.prog.cellsOf 74 = 16 := by kernel_rfl
  have hI : Try.prog.cellsOf 38 = 4 := by kernel_rfl
  obtain ⟨fuel, hf⟩ := h
  obtain ⟨xs, m, _, hx, _, hlen, hg⟩ := DataW.trod_array Try.underlying74 hf
  simp only [Prod.mk.injEq] at hx
  obtain ⟨rfl, _⟩ := hx
  rw [hI] at hg
  match l, hsz.trans hC, xs, hlen with
  | [a0, a1, a2, a3, b0, b1, b2, b3, c0, c1, c2, c3, d0, d1, d2, d3], _, [x0, x1, x2, x3], _ =>
    have hw' : ∀ (j : Nat) (d : DataW H), [x0.1, x1.1, x2.1, x3.1][j]? = some d → ∀ q ∈ d.weights Try.prog 38, q ≤ reachBytes := by
      intro j d hd q hq
      refine hw q ?_
      simp only [DataW.weights, Try.underlying74]
      exact weightsAll_mem (j := j) hd q hq
    have t0 : DataW.trod enc Try.prog W base spare held m 38 [a0, a1, a2, a3] = some x0 := by simpa [Value.cells] using hg 0 (by omega)
    have t1 : DataW.trod enc Try.prog W base spare held m 38 [b0, b1, b2, b3] = some x1 := by simpa [Value.cells] using hg 1 (by omega)
    have t2 : DataW.trod enc Try.prog W base spare held m 38 [c0, c1, c2, c3] = some x2 := by simpa [Value.cells] using hg 2 (by omega)
    have t3 : DataW.trod enc Try.prog W base spare held m 38 [d0, d1, d2, d3] = some x3 := by simpa [Value.cells] using hg 3 (by omega)
    obtain ⟨p0, p1, p2, p3, p4, p5, p6, p7, e0, f0, g0⟩ := item_fuel t0 (hw' 0 _ rfl)
    obtain ⟨q0, q1, q2, q3, q4, q5, q6, q7, e1, f1, g1⟩ := item_fuel t1 (hw' 1 _ rfl)
    obtain ⟨r0, r1, r2, r3, r4, r5, r6, r7, e2, f2, g2⟩ := item_fuel t2 (hw' 2 _ rfl)
    obtain ⟨s0, s1, s2, s3, s4, s5, s6, s7, e3, f3, g3⟩ := item_fuel t3 (hw' 3 _ rfl)
    simp only [List.cons.injEq, and_true] at e0 e1 e2 e3
    obtain ⟨rfl, rfl, rfl, rfl⟩ := e0
    obtain ⟨rfl, rfl, rfl, rfl⟩ := e1
    obtain ⟨rfl, rfl, rfl, rfl⟩ := e2
    obtain ⟨rfl, rfl, rfl, rfl⟩ := e3
    refine ⟨of4 p0 q0 r0 s0, of4 p1 q1 r1 s1, of4 p2 q2 r2 s2, of4 p3 q3 r3 s3, of4 p4 q4 r4 s4, of4 p5 q5 r5 s5, of4 p6 q6 r6 s6, of4 p7 q7 r7 s7, rfl, ?_, ?_⟩
    · intro j hj
      rcases (show j = 0 ∨ j = 1 ∨ j = 2 ∨ j = 3 by omega) with rfl | rfl | rfl | rfl
      · exact f0
      · exact f1
      · exact f2
      · exact f3
    · intro j hj
      rcases (show j = 0 ∨ j = 1 ∨ j = 2 ∨ j = 3 by omega) with rfl | rfl | rfl | rfl
      · exact g0
      · exact g1
      · exact g2
      · exact g3

end Go.Proofs.Ytaoaenjhclicfaa
