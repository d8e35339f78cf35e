/- Two slices of writes in an array, and a crashed disk, among the arguments, opened. -/
import Derived.Test.YthhalmjapiempaaZD
import Derived.Test.YthhalmjapiempaaZH
import Derived.Test.YthhalmjapiempaaR7
set_option linter.unusedVariables false
set_option linter.unusedSimpArgs false
namespace Go.Proofs.Ythhalmjapiempaa
open Go.ChangeShapes Go.WideShapes Go.ChangeAt Go.RowKit Go.Joins Go.Deep

set_option maxRecDepth 100000 in
theorem meta_fuel {H : Type} {enc : TypeId × Value → H} {W : World} {base fuel : Nat} {spare : Nat → Bool} {held : Bool} {c0 c1 c2 c3 c4 c5 c6 c7 : Value} {x : DataW H × List MemPlace}
    (hf : DataW.trod enc Try.prog W base spare held fuel 24 [c0, c1, c2, c3, c4, c5, c6, c7] = some x) (hw : ∀ q ∈ x.1.weights Try.prog 24, q ≤ reachBytes) :
    ∃ ge ph tg tx rt pg li A n c xs, [c0, c1, c2, c3, c4, c5, c6, c7] = [.int .i64 ge, .int .i64 ph, .int .i64 tg, .int .i64 tx, .int .i64 rt, .int .i64 pg, .int .i64 li, .slice A n c] ∧ Bs W A n c xs := by
  have ci : Try.prog.cellsOf 3 = 1 := by kernel_rfl
  have cs : Try.prog.cellsOf 22 = 1 := by kernel_rfl
  obtain ⟨ys, n, _, hx, _, hlen, hg⟩ := DataW.trod_struct Try.underlying24 hf
  obtain ⟨y0, y1, y2, y3, y4, y5, y6, y7, rfl⟩ := list8 (l := ys) hlen
  subst hx
  have g0 : DataW.trod enc Try.prog W base spare held n 3 [c0] = some y0 := by simpa [Value.cells, ci] using hg 0 _ rfl
  have g1 : DataW.trod enc Try.prog W base spare held n 3 [c1] = some y1 := by simpa [Value.cells, ci] using hg 1 _ rfl
  have g2 : DataW.trod enc Try.prog W base spare held n 3 [c2] = some y2 := by simpa [Value.cells, ci] using hg 2 _ rfl
  have g3 : DataW.trod enc Try.prog W base spare held n 3 [c3] = some y3 := by simpa [Value.cells, ci] using hg 3 _ rfl
  have g4 : DataW.trod enc Try.prog W base spare held n 3 [c4] = some y4 := by simpa [Value.cells, ci] using hg 4 _ rfl
  have g5 : DataW.trod enc Try.prog W base spare held n 3 [c5] = some y5 := by simpa [Value.cells, ci] using hg 5 _ rfl
  have g6 : DataW.trod enc Try.prog W base spare held n 3 [c6] = some y6 := by simpa [Value.cells, ci] using hg 6 _ rfl
  have g7 : DataW.trod enc Try.prog W base spare held n 22 [c7] = some y7 := by simpa [Value.cells, cs] using hg 7 _ rfl
  have hw' : ∀ q ∈ y7.1.weights Try.prog 22, q ≤ reachBytes := by
    intro q hq
    refine hw q ?_
    simp only [DataW.weights, Try.underlying24]
    exact DataW.weights_mem_each (j := 7) (t := 22) (d := y7.1) rfl rfl q hq
  obtain ⟨B, mm, dd, xs, e7, hb⟩ := bs_of_fuel g7 hw'
  obtain ⟨i0, e0, _, _⟩ := DataW.trod_int Try.underlying3 g0
  obtain ⟨i1, e1, _, _⟩ := DataW.trod_int Try.underlying3 g1
  obtain ⟨i2, e2, _, _⟩ := DataW.trod_int Try.underlying3 g2
  obtain ⟨i3, e3, _, _⟩ := DataW.trod_int Try.underlying3 g3
  obtain ⟨i4, e4, _, _⟩ := DataW.trod_int Try.underlying3 g4
  obtain ⟨i5, e5, _, _⟩ := DataW.trod_int Try.underlying3 g5
  obtain ⟨i6, e6, _, _⟩ := DataW.trod_int Try.underlying3 g6
  simp only [List.cons.injEq, and_true] at e0 e1 e2 e3 e4 e5 e6
  subst e0 e1 e2 e3 e4 e5 e6 e7
  exact ⟨i0, i1, i2, i3, i4, i5, i6, B, mm, dd, xs, rfl, hb⟩
theorem list11 {α : Type} {l : List α} (h : l.length = 11) : ∃ c0 c1 c2 c3 c4 c5 c6 c7 c8 c9 c10, l = [c0, c1, c2, c3, c4, c5, c6, c7, c8, c9, c10] := by
  match l, h with
  | [c0, c1, c2, c3, c4, c5, c6, c7, c8, c9, c10], _ => exact ⟨c0, c1, c2, c3, c4, c5, c6, c7, c8, c9, c10, rfl⟩
end Go.Proofs.Ythhalmjapiempaa
