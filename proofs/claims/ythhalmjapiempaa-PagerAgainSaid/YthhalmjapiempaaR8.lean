/- Two slices of writes in an array, and a crashed disk, among the arguments, opened. -/
import Derived.Test.YthhalmjapiempaaZD
import Derived.Test.YthhalmjapiempaaZH
import Derived.Test.YthhalmjapiempaaR7
set_option linter.unusedVariables false
set_option linter.unusedSimpArgs false
namespace Go.Proofs.Ythhalmjapiempaa
open Go.ChangeShapes Go.WideShapes Go.ChangeAt Go.RowKit Go.Joins Go.Deep

theorem slice_of_fuel {H : Type} {enc : TypeId × Value → H} {W : World} {base m : Nat} {spare : Nat → Bool} {held : Bool} {t e : TypeId} {c0 : Value} {x : DataW H × List MemPlace} (hu : Try.prog.underlying t = some (.slice e))
    (h : DataW.trod enc Try.prog W base spare held m t [c0] = some x) : ∃ A n c, c0 = .slice A n c := by
  rcases Go.Deep.open_slice hu h with ⟨hcs, _⟩ | ⟨x, l, c, m, n, D, Pl, hcs, _⟩
  · injection hcs with h1 h2
    exact ⟨_, _, _, h1⟩
  · injection hcs with h1 h2
    exact ⟨_, _, _, h1⟩
theorem trod_one {H : Type} {enc : TypeId × Value → H} {W : World} {base m : Nat} {spare : Nat → Bool} {held : Bool} {t : TypeId} {A : Option Addr} {n c : Nat} {x : DataW H × List MemPlace}
    (h : DataW.trod enc Try.prog W base spare held m t [.slice A n c] = some x) : DataW.Trod enc Try.prog W base spare held t (.slice A n c) x.1 x.2 := ⟨m, by simpa [Value.cells] using h⟩
theorem wrs_of_fuel {H : Type} {enc : TypeId × Value → H} {W : World} {base m : Nat} {spare : Nat → Bool} {held : Bool} {c0 : Value} {x : DataW H × List MemPlace}
    (h : DataW.trod enc Try.prog W base spare held m 25 [c0] = some x) (hw : ∀ q ∈ x.1.weights Try.prog 25, q ≤ reachBytes) : ∃ A n c hs l, c0 = .slice A n c ∧ Wrs W A n c hs l := by
  obtain ⟨A, n, c, rfl⟩ := slice_of_fuel Try.underlying25 h
  obtain ⟨hs, l, hb⟩ := wrs_of_trod (trod_one h) hw
  exact ⟨A, n, c, hs, l, rfl, hb⟩
theorem list2 {α : Type} {l : List α} (h : l.length = 2) : ∃ c0 c1, l = [c0, c1] := by
  match l, h with
  | [c0, c1], _ => exact ⟨c0, c1, rfl⟩
set_option maxRecDepth 100000 in
theorem pair_open {H : Type} {enc : TypeId × Value → H} {W : World} {base b0 : Nat} {spare : Nat → Bool} {held : Bool} {r : Reach} {v : Value} {d : DataW H} {ps : List MemPlace}
    (hv : Value.okWide Try.prog W r b0 74 v) (h : DataW.Trod enc Try.prog W base spare held 74 v d ps) (hw : ∀ q ∈ d.weights Try.prog 74, q ≤ reachBytes) :
    ∃ A n c hs l B m e js more, v = .agg #[.slice A n c, .slice B m e] ∧ Wrs W A n c hs l ∧ Wrs W B m e js more := by
  have hv' := hv
  simp only [Value.okWide, Try.underlying74] at hv'
  obtain ⟨cs, rfl, hsz, _⟩ := hv'
  have hC : Try.prog.cellsOf 74 = 2 := by kernel_rfl
  have hI : Try.prog.cellsOf 25 = 1 := by kernel_rfl
  obtain ⟨l⟩ := cs
  obtain ⟨c0, c1, rfl⟩ := list2 (l := l) (hsz.trans hC)
  obtain ⟨fuel, hf⟩ := h
  obtain ⟨xs, m, _, hx, _, hlen, hg⟩ := DataW.trod_array Try.underlying74 hf
  simp only [Prod.mk.injEq] at hx
  obtain ⟨rfl, _⟩ := hx
  obtain ⟨x0, x1, rfl⟩ := list2 hlen
  rw [hI] at hg
  have hw' : ∀ (j : Nat) (d : DataW H), [x0.1, x1.1][j]? = some d → ∀ q ∈ d.weights Try.prog 25, q ≤ reachBytes := by
    intro j d hd q hq
    refine hw q ?_
    simp only [DataW.weights, Try.underlying74]
    exact weightsAll_mem (j := j) hd q hq
  obtain ⟨A, n, c, hs, l, e0, h0⟩ := wrs_of_fuel (c0 := c0) (x := x0) (by simpa [Value.cells] using hg 0 (by omega)) (hw' 0 _ rfl)
  obtain ⟨B, k, e, js, more, e1, h1⟩ := wrs_of_fuel (c0 := c1) (x := x1) (by simpa [Value.cells] using hg 1 (by omega)) (hw' 1 _ rfl)
  subst e0 e1
  exact ⟨A, n, c, hs, l, B, k, e, js, more, rfl, h0, h1⟩
set_option maxRecDepth 100000 in
theorem meta_fuel {H : Type} {enc : TypeId × Value → H} {W : World} {base fuel : Nat} {spare : Nat → Bool} {held : Bool} {c0 c1 c2 c3 c4 c5 c6 c7 : Value} {x : DataW H × List MemPlace}
    (hf : DataW.trod enc Try.prog W base spare held fuel 24 [c0, c1, c2, c3, c4, c5, c6, c7] = some x) (hw : ∀ q ∈ x.1.weights Try.prog 24, q ≤ reachBytes) :
    ∃ ge ph tg tx rt pg li A n c xs, [c0, c1, c2, c3, c4, c5, c6, c7] = [.int .i64 ge, .int .i64 ph, .int .i64 tg, .int .i64 tx, .int .i64 rt, .int .i64 pg, .int .i64 li, .slice A n c] ∧ Bs W A n c xs := by
  have ci : Try.prog.cellsOf 3 = 1 := by kernel_rfl
  have cs : Try.prog.cellsOf 22 = 1 := by kernel_rfl
  obtain ⟨ys, n, _, hx, _, hlen, hg⟩ := DataW.trod_struct Try.underlying24 hf
  obtain ⟨y0, y1, y2, y3, y4, y5, y6, y7, rfl⟩ := list8 (l := ys) hlen
  subst hx
  have g0 : DataW.trod enc Try.prog W base spare held n 3 [c0] = some y0 := by simpa [Value.cells, ci] using hg 0 _ rfl
  have g1 : DataW.trod enc Try.prog W base spare held n 3 [c1] = some y1 := by simpa [Value.cells, ci] using hg 1 _ rfl
  have g2 : DataW.trod enc Try.prog W base spare held n 3 [c2] = some y2 := by simpa [Value.cells, ci] using hg 2 _ rfl
  have g3 : DataW.trod enc Try.prog W base spare held n 3 [c3] = some y3 := by simpa [Value.cells, ci] using hg 3 _ rfl
  have g4 : DataW.trod enc Try.prog W base spare held n 3 [c4] = some y4 := by simpa [Value.cells, ci] using hg 4 _ rfl
  have g5 : DataW.trod enc Try.prog W base spare held n 3 [c5] = some y5 := by simpa [Value.cells, ci] using hg 5 _ rfl
  have g6 : DataW.trod enc Try.prog W base spare held n 3 [c6] = some y6 := by simpa [Value.cells, ci] using hg 6 _ rfl
  have g7 : DataW.trod enc Try.prog W base spare held n 22 [c7] = some y7 := by simpa [Value.cells, cs] using hg 7 _ rfl
  have hw' : ∀ q ∈ y7.1.weights Try.prog 22, q ≤ reachBytes := by
    intro q hq
    refine hw q ?_
    simp only [DataW.weights, Try.underlying24]
    exact DataW.weights_mem_each (j := 7) (t := 22) (d := y7.1) rfl rfl q hq
  obtain ⟨B, mm, dd, xs, e7, hb⟩ := bs_of_fuel g7 hw'
  obtain ⟨i0, e0, _, _⟩ := DataW.trod_int Try.underlying3 g0
  obtain ⟨i1, e1, _, _⟩ := DataW.trod_int Try.underlying3 g1
  obtain ⟨i2, e2, _, _⟩ := DataW.trod_int Try.underlying3 g2
  obtain ⟨i3, e3, _, _⟩ := DataW.trod_int Try.underlying3 g3
  obtain ⟨i4, e4, _, _⟩ := DataW.trod_int Try.underlying3 g4
  obtain ⟨i5, e5, _, _⟩ := DataW.trod_int Try.underlying3 g5
  obtain ⟨i6, e6, _, _⟩ := DataW.trod_int Try.underlying3 g6
  simp only [List.cons.injEq, and_true] at e0 e1 e2 e3 e4 e5 e6
  subst e0 e1 e2 e3 e4 e5 e6 e7
  exact ⟨i0, i1, i2, i3, i4, i5, i6, B, mm, dd, xs, rfl, hb⟩
theorem list11 {α : Type} {l : List α} (h : l.length = 11) : ∃ c0 c1 c2 c3 c4 c5 c6 c7 c8 c9 c10, l = [c0, c1, c2, c3, c4, c5, c6, c7, c8, c9, c10] := by
  match l, h with
  | [c0, c1, c2, c3, c4, c5, c6, c7, c8, c9, c10], _ => exact ⟨c0, c1, c2, c3, c4, c5, c6, c7, c8, c9, c10, rfl⟩
set_option maxRecDepth 100000 in
theorem crashed_open {H : Type} {enc : TypeId × Value → H} {W : World} {base b0 : Nat} {spare : Nat → Bool} {held : Bool} {r : Reach} {v : Value} {d : DataW H} {ps : List MemPlace}
    (hv : Value.okWide Try.prog W r b0 76 v) (h : DataW.Trod enc Try.prog W base spare held 76 v d ps) (hw : ∀ q ∈ d.weights Try.prog 76, q ≤ reachBytes) :
    ∃ I i j img ge ph tg tx rt pg li A n c xs fu K k e ks, v = .agg #[.slice I i j, .int .i64 ge, .int .i64 ph, .int .i64 tg, .int .i64 tx, .int .i64 rt, .int .i64 pg, .int .i64 li, .slice A n c, .int .i64 fu, .slice K k e] ∧ Bs W I i j img ∧ Bs W A n c xs ∧ Rb W K k e ks ∧ (-9223372036854775808 ≤ fu ∧ fu ≤ 9223372036854775807) := by
  obtain ⟨cs, rfl, hsz⟩ := okWide_struct Try.underlying76 hv
  have hC : Try.prog.cellsOf 76 = 11 := by kernel_rfl
  obtain ⟨l⟩ := cs
  obtain ⟨c0, c1, c2, c3, c4, c5, c6, c7, c8, c9, c10, rfl⟩ := list11 (l := l) (hsz.trans hC)
  obtain ⟨fuel, hf⟩ := h
  have ci : Try.prog.cellsOf 3 = 1 := by kernel_rfl
  have cs : Try.prog.cellsOf 22 = 1 := by kernel_rfl
  have cb : Try.prog.cellsOf 52 = 1 := by kernel_rfl
  have cm : Try.prog.cellsOf 24 = 8 := by kernel_rfl
  obtain ⟨ys, n, _, hx, _, hlen, hg⟩ := DataW.trod_struct Try.underlying76 hf
  obtain ⟨y0, y1, y2, y3, rfl⟩ := list4 (l := ys) hlen
  simp only [Prod.mk.injEq] at hx
  obtain ⟨hd, _⟩ := hx
  subst hd
  have g0 : DataW.trod enc Try.prog W base spare held n 22 [c0] = some y0 := by simpa [Value.cells, ci, cs, cb, cm] using hg 0 _ rfl
  have g1 : DataW.trod enc Try.prog W base spare held n 24 [c1, c2, c3, c4, c5, c6, c7, c8] = some y1 := by simpa [Value.cells, ci, cs, cb, cm] using hg 1 _ rfl
  have g2 : DataW.trod enc Try.prog W base spare held n 3 [c9] = some y2 := by simpa [Value.cells, ci, cs, cb, cm] using hg 2 _ rfl
  have g3 : DataW.trod enc Try.prog W base spare held n 52 [c10] = some y3 := by simpa [Value.cells, ci, cs, cb, cm] using hg 3 _ rfl
  have hw' : ∀ (j : Nat) (t : TypeId) (d : DataW H), [22, 24, 3, 52][j]? = some t → [y0.1, y1.1, y2.1, y3.1][j]? = some d → ∀ q ∈ d.weights Try.prog t, q ≤ reachBytes := by
    intro j t d ht hd q hq
    refine hw q ?_
    simp only [DataW.weights, Try.underlying76]
    exact DataW.weights_mem_each (j := j) ht hd q hq
  obtain ⟨I, i, j, img, e0, hb0⟩ := bs_of_fuel g0 (hw' 0 _ _ rfl rfl)
  obtain ⟨ge, ph, tg, tx, rt, pg, li, A, m, c, xs, e1, hb1⟩ := meta_fuel g1 (hw' 1 _ _ rfl rfl)
  obtain ⟨fu, e2, _, wf⟩ := DataW.trod_int Try.underlying3 g2
  obtain ⟨K, k, e, ks, e3, hb3⟩ := rb_of_fuel g3 (hw' 3 _ _ rfl rfl)
  simp only [List.cons.injEq, and_true] at e0 e1 e2
  obtain ⟨f1, f2, f3, f4, f5, f6, f7, f8⟩ := e1
  subst e0 e2 e3 f1 f2 f3 f4 f5 f6 f7 f8
  exact ⟨I, i, j, img, ge, ph, tg, tx, rt, pg, li, A, m, c, xs, fu, K, k, e, ks, rfl, hb0, hb1, hb3, int_bounds wf⟩
end Go.Proofs.Ythhalmjapiempaa
