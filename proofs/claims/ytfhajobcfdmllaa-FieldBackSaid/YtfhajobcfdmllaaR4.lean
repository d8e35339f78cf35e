/- A slice of calls among the arguments, opened. -/
import Derived.Test.YtfhajobcfdmllaaR1
import Derived.Test.YtfhajobcfdmllaaO1
import Derived.Lib.SmallJoins
set_option linter.unusedVariables false
set_option linter.unusedSimpArgs false
namespace Go.Proofs.Ytfhajobcfdmllaa
open Go.ChangeShapes Go.WideShapes Go.ChangeAt Go.RowKit Go.Joins Go.Deep

instance : Inhabited OpV := ⟨⟨0, 0, 0, []⟩⟩
set_option maxRecDepth 100000 in
theorem ops_of_trod {H : Type} {enc : TypeId × Value → H} {W : World} {base : Nat} {spare : Nat → Bool} {held : Bool} {a : Option Addr} {len cap : Nat} {d : DataW H} {ps : List MemPlace}
    (h : DataW.Trod enc Try.prog W base spare held 24 (.slice a len cap) d ps) (hw : ∀ q ∈ d.weights Try.prog 24, q ≤ reachBytes) : ∃ l, Ops W a len cap l := by
  obtain ⟨fuel, hf⟩ := h
  rcases Go.Deep.open_slice Try.underlying24 hf with ⟨hcs, _⟩ | ⟨x, l, c, m, n, D, Pl, hcs, _, hlc, hm, hmm, hx, he⟩
  · simp [Value.cells] at hcs
    obtain ⟨rfl, rfl, rfl⟩ := hcs
    exact ⟨[], rfl, Nat.le_refl _, by omega, by omega, fun h => absurd h (by omega)⟩
  · simp [Value.cells] at hcs
    obtain ⟨rfl, rfl, rfl⟩ := hcs
    simp only [Prod.mk.injEq] at hx
    obtain ⟨hd, _⟩ := hx
    subst hd
    have hle : len ≤ m := by
      rw [hmm]
      split
      · exact hlc
      · exact Nat.le_refl _
    have hb48 : 1 ≤ Try.prog.bytesOf 33 := of_decide_eq_true (by kernel_rfl)
    have c4 : Try.prog.cellsOf 33 = 4 := by kernel_rfl
    have ci : Try.prog.cellsOf 3 = 1 := by kernel_rfl
    have cs : Try.prog.cellsOf 28 = 1 := by kernel_rfl
    have hl : len ≤ 140737488355328 := by
      have := hw ((((List.range len).map D).length + ((List.range (m - len)).map fun j => D (len + j)).length) * Try.prog.bytesOf 33) (by simp [DataW.weights, Try.underlying24])
      have h2 := Nat.le_trans (Nat.le_mul_of_pos_right _ hb48) this
      simp [reachBytes] at h2
      omega
    have each : ∀ j, j < len → ∃ y : OpV × Option Addr × Nat × Nat, OpC W (x.add (j * 4)) y.1 y.2.1 y.2.2.1 y.2.2.2 := by
      intro j hj
      obtain ⟨cs', h1, h2⟩ := he j (by omega)
      rw [c4] at h1
      obtain ⟨_, hlen, hcell⟩ := World.cells?_some h1
      obtain ⟨y0, y1, y2, y3, k, hy, _, t0, t1, t2, t3⟩ := trod_struct4 Try.underlying33 h2
      match cs', hlen with
      | [v0, v1, v2, v3], _ =>
        simp only [ci, cs, List.drop_zero, List.drop_succ_cons, List.take_succ_cons, List.take_zero] at t0 t1 t2 t3
        have z0 := hcell 0 (by omega)
        have z1 := hcell 1 (by omega)
        have z2 := hcell 2 (by omega)
        have z3 := hcell 3 (by omega)
        have hw' : ∀ q ∈ y3.1.weights Try.prog 28, q ≤ reachBytes := by
          intro q hq
          refine hw q ?_
          simp only [DataW.weights, Try.underlying24, List.mem_cons, List.mem_append]
          refine .inr (.inl (weightsAll_mem (j := j) (d := D j) ?_ q ?_))
          · simp [hj]
          · rw [show D j = .agg [y0.1, y1.1, y2.1, y3.1] from congrArg Prod.fst hy]
            simp only [DataW.weights, Try.underlying33]
            exact DataW.weights_mem_each (j := 3) (t := 28) (d := y3.1) rfl rfl q hq
        obtain ⟨B, mm, dd, xs, e3, hb⟩ := bs_of_fuel t3 hw'
        obtain ⟨i0, e0, _, w0⟩ := DataW.trod_int Try.underlying3 t0
        obtain ⟨i1, e1, _, w1⟩ := DataW.trod_int Try.underlying3 t1
        obtain ⟨i2, e2, _, w2⟩ := DataW.trod_int Try.underlying3 t2
        simp only [List.cons.injEq, and_true] at e0 e1 e2
        subst e0 e1 e2 e3
        exact ⟨(⟨i0, i1, i2, xs⟩, B, mm, dd), by simpa [Addr.add] using z0, by simpa [Addr.add] using z1, by simpa [Addr.add] using z2, by simpa [Addr.add] using z3, hb, int_bounds w0, int_bounds w1, int_bounds w2⟩
    obtain ⟨y, hy⟩ := Go.Deep.choose_lt each
    refine ⟨(List.range len).map fun j => (y j).1, by simp, hlc, by simpa [maxLen] using hm, hl, fun _ => ⟨x, rfl, fun j hj => ⟨(y j).2.1, (y j).2.2.1, (y j).2.2.2, ?_⟩⟩⟩
    have := hy j hj
    simpa [List.getD_eq_getElem?_getD, hj] using this
end Go.Proofs.Ytfhajobcfdmllaa
