/- Slices of truths, and of calls on a disk, among the arguments, opened. -/
import Derived.Test.YtcegphnhohpegaaR1
import Derived.Test.YtcegphnhohpegaaD14
import Derived.Lib.SmallJoins
set_option linter.unusedVariables false
set_option linter.unusedSimpArgs false
namespace Go.Proofs.Ytcegphnhohpegaa
open Go.ChangeShapes Go.WideShapes Go.ChangeAt Go.RowKit Go.Joins Go.Deep

set_option maxRecDepth 100000 in
theorem rb_of_fuel {H : Type} {enc : TypeId × Value → H} {W : World} {base fuel : Nat} {spare : Nat → Bool} {held : Bool} {v : Value} {x : DataW H × List MemPlace}
    (h : DataW.trod enc Try.prog W base spare held fuel 24 [v] = some x) (hw : ∀ q ∈ x.1.weights Try.prog 24, q ≤ reachBytes) : ∃ B m d ks, v = .slice B m d ∧ Rb W B m d ks := by
  rcases Go.Deep.open_slice1 Try.underlying24 (by kernel_rfl) h with ⟨hcs, _⟩ | ⟨y, l, c, m, n, V, D, Pl, hcs, _, hlc, hm, hmm, hx, he⟩
  · simp only [List.cons.injEq, and_true] at hcs
    subst hcs
    exact ⟨none, 0, 0, [], rfl, rfl, Nat.le_refl _, by omega, by omega, fun h => absurd h (by omega)⟩
  · simp only [List.cons.injEq, and_true] at hcs
    subst hcs
    have hle : l ≤ m := by
      rw [hmm]
      split
      · exact hlc
      · exact Nat.le_refl _
    have hb1 : Try.prog.bytesOf 4 = 1 := by kernel_rfl
    have hl : l ≤ 140737488355328 := by
      rw [hx] at hw
      have := hw ((((List.range l).map D).length + ((List.range (m - l)).map fun j => D (l + j)).length) * Try.prog.bytesOf 4) (by simp [DataW.weights, Try.underlying24])
      rw [hb1] at this
      simp [reachBytes] at this
      omega
    have each : ∀ j, j < l → ∃ b : Bool, V j = .bool b := by
      intro j hj
      obtain ⟨b, e, _⟩ := DataW.trod_bool Try.underlying4 (he j (by omega)).2
      simp only [List.cons.injEq, and_true] at e
      exact ⟨b, e⟩
    obtain ⟨b, hb⟩ := Go.Deep.choose_lt each
    refine ⟨_, _, _, (List.range l).map b, rfl, by simp, hlc, by simpa [maxLen] using hm, hl, fun _ => ⟨y, rfl, fun j hj => ?_⟩⟩
    rw [(he j (by omega)).1, hb j hj]
    simp [List.getD_eq_getElem?_getD, hj]
theorem rb_of_trod {H : Type} {enc : TypeId × Value → H} {W : World} {base : Nat} {spare : Nat → Bool} {held : Bool} {a : Option Addr} {len cap : Nat} {d : DataW H} {ps : List MemPlace}
    (h : DataW.Trod enc Try.prog W base spare held 24 (.slice a len cap) d ps) (hw : ∀ q ∈ d.weights Try.prog 24, q ≤ reachBytes) : ∃ ks, Rb W a len cap ks := by
  obtain ⟨fuel, hf⟩ := h
  obtain ⟨B, m, d', ks, e, hb⟩ := rb_of_fuel (v := .slice a len cap) (by simpa [Value.cells] using hf) hw
  injection e with e1 e2 e3
  subst e1 e2 e3
  exact ⟨ks, hb⟩
instance : Inhabited OpW := ⟨op0⟩
theorem list5 {α : Type} {l : List α} (h : l.length = 5) : ∃ c0 c1 c2 c3 c4, l = [c0, c1, c2, c3, c4] := by
  match l, h with
  | [c0, c1, c2, c3, c4], _ => exact ⟨c0, c1, c2, c3, c4, rfl⟩
set_option maxRecDepth 100000 in
theorem opsD_of_trod {H : Type} {enc : TypeId × Value → H} {W : World} {base : Nat} {spare : Nat → Bool} {held : Bool} {a : Option Addr} {len cap : Nat} {d : DataW H} {ps : List MemPlace}
    (h : DataW.Trod enc Try.prog W base spare held 23 (.slice a len cap) d ps) (hw : ∀ q ∈ d.weights Try.prog 23, q ≤ reachBytes) : ∃ l, OpsD W a len cap l := by
  obtain ⟨fuel, hf⟩ := h
  rcases Go.Deep.open_slice Try.underlying23 hf with ⟨hcs, _⟩ | ⟨x, l, c, m, n, D, Pl, hcs, _, hlc, hm, hmm, hx, he⟩
  · simp [Value.cells] at hcs
    obtain ⟨rfl, rfl, rfl⟩ := hcs
    exact ⟨[], rfl, Nat.le_refl _, by omega, by omega, fun h => absurd h (by omega)⟩
  · simp [Value.cells] at hcs
    obtain ⟨rfl, rfl, rfl⟩ := hcs
    simp only [Prod.mk.injEq] at hx
    obtain ⟨hd, _⟩ := hx
    subst hd
    have hle : len ≤ m := by
      rw [hmm]
      split
      · exact hlc
      · exact Nat.le_refl _
    have hb48 : 1 ≤ Try.prog.bytesOf 34 := of_decide_eq_true (by kernel_rfl)
    have c5 : Try.prog.cellsOf 34 = 5 := by kernel_rfl
    have ci : Try.prog.cellsOf 3 = 1 := by kernel_rfl
    have cs : Try.prog.cellsOf 22 = 1 := by kernel_rfl
    have cb : Try.prog.cellsOf 24 = 1 := by kernel_rfl
    have hl : len ≤ 140737488355328 := by
      have := hw ((((List.range len).map D).length + ((List.range (m - len)).map fun j => D (len + j)).length) * Try.prog.bytesOf 34) (by simp [DataW.weights, Try.underlying23])
      have h2 := Nat.le_trans (Nat.le_mul_of_pos_right _ hb48) this
      simp [reachBytes] at h2
      omega
    have each : ∀ j, j < len → ∃ y : OpW × Option Addr × Nat × Nat × Option Addr × Nat × Nat, OpD W (x.add (j * 5)) y.1 y.2.1 y.2.2.1 y.2.2.2.1 y.2.2.2.2.1 y.2.2.2.2.2.1 y.2.2.2.2.2.2 := by
      intro j hj
      obtain ⟨cs', h1, h2⟩ := he j (by omega)
      rw [c5] at h1
      obtain ⟨_, hlen, hcell⟩ := World.cells?_some h1
      obtain ⟨ys, k, _, hy, _, hylen, hg⟩ := DataW.trod_struct Try.underlying34 h2
      obtain ⟨y0, y1, y2, y3, y4, rfl⟩ := list5 (l := ys) hylen
      match cs', hlen with
      | [v0, v1, v2, v3, v4], _ =>
        have t0 : DataW.trod enc Try.prog W base spare held k 3 [v0] = some y0 := by simpa [ci] using hg 0 _ rfl
        have t1 : DataW.trod enc Try.prog W base spare held k 3 [v1] = some y1 := by simpa [ci] using hg 1 _ rfl
        have t2 : DataW.trod enc Try.prog W base spare held k 3 [v2] = some y2 := by simpa [ci] using hg 2 _ rfl
        have t3 : DataW.trod enc Try.prog W base spare held k 22 [v3] = some y3 := by simpa [cs] using hg 3 _ rfl
        have t4 : DataW.trod enc Try.prog W base spare held k 24 [v4] = some y4 := by simpa [cb] using hg 4 _ rfl
        have z0 := hcell 0 (by omega)
        have z1 := hcell 1 (by omega)
        have z2 := hcell 2 (by omega)
        have z3 := hcell 3 (by omega)
        have z4 := hcell 4 (by omega)
        have hD : D j = .agg [y0.1, y1.1, y2.1, y3.1, y4.1] := congrArg Prod.fst hy
        have hsub : ∀ q ∈ (DataW.agg [y0.1, y1.1, y2.1, y3.1, y4.1]).weights Try.prog 34, q ≤ reachBytes := by
          intro q hq
          refine hw q ?_
          simp only [DataW.weights, Try.underlying23, List.mem_cons, List.mem_append]
          refine .inr (.inl (weightsAll_mem (j := j) (d := D j) ?_ q ?_))
          · simp [hj]
          · rw [hD]; exact hq
        have hw3 : ∀ q ∈ y3.1.weights Try.prog 22, q ≤ reachBytes := by
          intro q hq
          refine hsub q ?_
          simp only [DataW.weights, Try.underlying34]
          exact DataW.weights_mem_each (j := 3) (t := 22) (d := y3.1) rfl rfl q hq
        have hw4 : ∀ q ∈ y4.1.weights Try.prog 24, q ≤ reachBytes := by
          intro q hq
          refine hsub q ?_
          simp only [DataW.weights, Try.underlying34]
          exact DataW.weights_mem_each (j := 4) (t := 24) (d := y4.1) rfl rfl q hq
        obtain ⟨B, mm, dd, xs, e3, hb⟩ := bs_of_fuel t3 hw3
        obtain ⟨K, kn, kc, ks, e4, hk⟩ := rb_of_fuel t4 hw4
        obtain ⟨i0, e0, _, w0⟩ := DataW.trod_int Try.underlying3 t0
        obtain ⟨i1, e1, _, w1⟩ := DataW.trod_int Try.underlying3 t1
        obtain ⟨i2, e2, _, w2⟩ := DataW.trod_int Try.underlying3 t2
        simp only [List.cons.injEq, and_true] at e0 e1 e2
        subst e0 e1 e2 e3 e4
        exact ⟨(⟨i0, i1, i2, xs, ks⟩, B, mm, dd, K, kn, kc), by simpa [Addr.add] using z0, by simpa [Addr.add] using z1, by simpa [Addr.add] using z2, by simpa [Addr.add] using z3, by simpa [Addr.add] using z4, hb, hk, int_bounds w0, int_bounds w1, int_bounds w2⟩
    obtain ⟨y, hy⟩ := Go.Deep.choose_lt each
    refine ⟨(List.range len).map fun j => (y j).1, by simp, hlc, by simpa [maxLen] using hm, hl, fun _ => ⟨x, rfl, fun j hj => ⟨(y j).2.1, (y j).2.2.1, (y j).2.2.2.1, (y j).2.2.2.2.1, (y j).2.2.2.2.2.1, (y j).2.2.2.2.2.2, ?_⟩⟩⟩
    have := hy j hj
    simpa [List.getD_eq_getElem?_getD, hj] using this
end Go.Proofs.Ytcegphnhohpegaa
