/- A meta among the arguments, opened; four truths in an array, opened. -/
import Derived.Test.YtenibcbodjkglaaR1
import Derived.Lib.SmallJoins
set_option linter.unusedVariables false
set_option linter.unusedSimpArgs false
namespace Go.Proofs.Ytenibcbodjkglaa
open Go.ChangeShapes Go.WideShapes Go.ChangeAt Go.RowKit Go.Joins Go.Deep

theorem list8 {α : Type} {l : List α} (h : l.length = 8) : ∃ c0 c1 c2 c3 c4 c5 c6 c7, l = [c0, c1, c2, c3, c4, c5, c6, c7] := by
  match l, h with
  | [c0, c1, c2, c3, c4, c5, c6, c7], _ => exact ⟨c0, c1, c2, c3, c4, c5, c6, c7, rfl⟩
theorem array8 {α : Type} {cs : Array α} (h : cs.size = 8) : ∃ c0 c1 c2 c3 c4 c5 c6 c7, cs = #[c0, c1, c2, c3, c4, c5, c6, c7] := by
  obtain ⟨l⟩ := cs
  obtain ⟨c0, c1, c2, c3, c4, c5, c6, c7, rfl⟩ := list8 h
  exact ⟨c0, c1, c2, c3, c4, c5, c6, c7, rfl⟩
set_option maxRecDepth 100000 in
theorem meta_open {H : Type} {enc : TypeId × Value → H} {W : World} {base b0 : Nat} {spare : Nat → Bool} {held : Bool} {r : Reach} {v : Value} {d : DataW H} {ps : List MemPlace}
    (hv : Value.okWide Try.prog W r b0 24 v) (h : DataW.Trod enc Try.prog W base spare held 24 v d ps) (hw : ∀ q ∈ d.weights Try.prog 24, q ≤ reachBytes) :
    ∃ ge ph tg tx rt pg li A n c xs, v = .agg #[.int .i64 ge, .int .i64 ph, .int .i64 tg, .int .i64 tx, .int .i64 rt, .int .i64 pg, .int .i64 li, .slice A n c] ∧ Bs W A n c xs := by
  obtain ⟨cs, rfl, hsz⟩ := okWide_struct Try.underlying24 hv
  have hC : Try.prog.cellsOf 24 = 8 := by kernel_rfl
  obtain ⟨c0, c1, c2, c3, c4, c5, c6, c7, rfl⟩ := array8 (hsz.trans hC)
  obtain ⟨fuel, hf⟩ := h
  have ci : Try.prog.cellsOf 3 = 1 := by kernel_rfl
  have cs : Try.prog.cellsOf 22 = 1 := by kernel_rfl
  obtain ⟨ys, n, _, hx, _, hlen, hg⟩ := DataW.trod_struct Try.underlying24 hf
  obtain ⟨y0, y1, y2, y3, y4, y5, y6, y7, rfl⟩ := list8 (l := ys) hlen
  simp only [Prod.mk.injEq] at hx
  obtain ⟨hd, _⟩ := hx
  subst hd
  have g0 : DataW.trod enc Try.prog W base spare held n 3 [c0] = some y0 := by simpa [Value.cells, ci] using hg 0 _ rfl
  have g1 : DataW.trod enc Try.prog W base spare held n 3 [c1] = some y1 := by simpa [Value.cells, ci] using hg 1 _ rfl
  have g2 : DataW.trod enc Try.prog W base spare held n 3 [c2] = some y2 := by simpa [Value.cells, ci] using hg 2 _ rfl
  have g3 : DataW.trod enc Try.prog W base spare held n 3 [c3] = some y3 := by simpa [Value.cells, ci] using hg 3 _ rfl
  have g4 : DataW.trod enc Try.prog W base spare held n 3 [c4] = some y4 := by simpa [Value.cells, ci] using hg 4 _ rfl
  have g5 : DataW.trod enc Try.prog W base spare held n 3 [c5] = some y5 := by simpa [Value.cells, ci] using hg 5 _ rfl
  have g6 : DataW.trod enc Try.prog W base spare held n 3 [c6] = some y6 := by simpa [Value.cells, ci] using hg 6 _ rfl
  have g7 : DataW.trod enc Try.prog W base spare held n 22 [c7] = some y7 := by simpa [Value.cells, cs] using hg 7 _ rfl
  have hw' : ∀ q ∈ y7.1.weights Try.prog 22, q ≤ reachBytes := by
    intro q hq
    refine hw q ?_
    simp only [DataW.weights, Try.underlying24]
    exact DataW.weights_mem_each (j := 7) (t := 22) (d := y7.1) rfl rfl q hq
  obtain ⟨B, mm, dd, xs, e7, hb⟩ := bs_of_fuel g7 hw'
  obtain ⟨i0, e0, _, _⟩ := DataW.trod_int Try.underlying3 g0
  obtain ⟨i1, e1, _, _⟩ := DataW.trod_int Try.underlying3 g1
  obtain ⟨i2, e2, _, _⟩ := DataW.trod_int Try.underlying3 g2
  obtain ⟨i3, e3, _, _⟩ := DataW.trod_int Try.underlying3 g3
  obtain ⟨i4, e4, _, _⟩ := DataW.trod_int Try.underlying3 g4
  obtain ⟨i5, e5, _, _⟩ := DataW.trod_int Try.underlying3 g5
  obtain ⟨i6, e6, _, _⟩ := DataW.trod_int Try.underlying3 g6
  simp only [List.cons.injEq, and_true] at e0 e1 e2 e3 e4 e5 e6
  subst e0 e1 e2 e3 e4 e5 e6 e7
  exact ⟨i0, i1, i2, i3, i4, i5, i6, B, mm, dd, xs, rfl, hb⟩
theorem list4 {α : Type} {l : List α} (h : l.length = 4) : ∃ c0 c1 c2 c3, l = [c0, c1, c2, c3] := by
  match l, h with
  | [c0, c1, c2, c3], _ => exact ⟨c0, c1, c2, c3, rfl⟩
set_option maxRecDepth 100000 in
theorem keep_open {H : Type} {enc : TypeId × Value → H} {W : World} {base b0 : Nat} {spare : Nat → Bool} {held : Bool} {r : Reach} {v : Value} {d : DataW H} {ps : List MemPlace}
    (hv : Value.okWide Try.prog W r b0 47 v) (h : DataW.Trod enc Try.prog W base spare held 47 v d ps) :
    ∃ k0 k1 k2 k3 : Bool, v = .agg #[.bool k0, .bool k1, .bool k2, .bool k3] := by
  have hv' := hv
  simp only [Value.okWide, Try.underlying47] at hv'
  obtain ⟨cs, rfl, hsz, _⟩ := hv'
  have hC : Try.prog.cellsOf 47 = 4 := by kernel_rfl
  have hI : Try.prog.cellsOf 4 = 1 := by kernel_rfl
  obtain ⟨c0, c1, c2, c3, rfl⟩ := array4 (hsz.trans hC)
  obtain ⟨fuel, hf⟩ := h
  obtain ⟨xs, m, _, hx, _, hlen, hg⟩ := DataW.trod_array Try.underlying47 hf
  obtain ⟨x0, x1, x2, x3, rfl⟩ := list4 hlen
  rw [hI] at hg
  obtain ⟨k0, e0, _⟩ := DataW.trod_bool (x := x0) (cs := [c0]) Try.underlying4 (by simpa [Value.cells] using hg 0 (by omega))
  obtain ⟨k1, e1, _⟩ := DataW.trod_bool (x := x1) (cs := [c1]) Try.underlying4 (by simpa [Value.cells] using hg 1 (by omega))
  obtain ⟨k2, e2, _⟩ := DataW.trod_bool (x := x2) (cs := [c2]) Try.underlying4 (by simpa [Value.cells] using hg 2 (by omega))
  obtain ⟨k3, e3, _⟩ := DataW.trod_bool (x := x3) (cs := [c3]) Try.underlying4 (by simpa [Value.cells] using hg 3 (by omega))
  simp only [List.cons.injEq, and_true] at e0 e1 e2 e3
  subst e0 e1 e2 e3
  exact ⟨k0, k1, k2, k3, rfl⟩
end Go.Proofs.Ytenibcbodjkglaa
