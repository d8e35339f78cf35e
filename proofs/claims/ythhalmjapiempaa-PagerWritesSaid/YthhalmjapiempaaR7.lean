/- Slices of writes among the arguments, opened. -/
import Derived.Test.YthhalmjapiempaaZD
import Derived.Test.YthhalmjapiempaaZH
import Derived.Test.YthhalmjapiempaaNA
import Derived.Lib.SmallJoins
set_option linter.unusedVariables false
set_option linter.unusedSimpArgs false
namespace Go.Proofs.Ythhalmjapiempaa
open Go.ChangeShapes Go.WideShapes Go.ChangeAt Go.RowKit Go.Joins Go.Deep

/-- Writes that an argument holds. -/
structure Wrs (W : World) (A : Option Addr) (n c : Nat) (hs : List (Int × Option Addr × Nat × Nat)) (l : List (Int × List UInt8)) : Prop where
  rl : Rl W A n c hs
  hs : Hs W [] W hs l
set_option maxRecDepth 100000 in
theorem wrs_of_trod {H : Type} {enc : TypeId × Value → H} {W : World} {base : Nat} {spare : Nat → Bool} {held : Bool} {a : Option Addr} {len cap : Nat} {d : DataW H} {ps : List MemPlace}
    (h : DataW.Trod enc Try.prog W base spare held 25 (.slice a len cap) d ps) (hw : ∀ q ∈ d.weights Try.prog 25, q ≤ reachBytes) : ∃ hs l, Wrs W a len cap hs l := by
  obtain ⟨fuel, hf⟩ := h
  rcases Go.Deep.open_slice Try.underlying25 hf with ⟨hcs, _⟩ | ⟨x, l, c, m, n, D, Pl, hcs, _, hlc, hm, hmm, hx, he⟩
  · simp [Value.cells] at hcs
    obtain ⟨rfl, rfl, rfl⟩ := hcs
    exact ⟨[], [], ⟨rfl, Nat.le_refl _, by omega, by omega, fun h => absurd h (by omega)⟩, Hs.nil _ _ _⟩
  · simp [Value.cells] at hcs
    obtain ⟨rfl, rfl, rfl⟩ := hcs
    simp only [Prod.mk.injEq] at hx
    obtain ⟨hd, _⟩ := hx
    subst hd
    have hle : len ≤ m := by
      rw [hmm]
      split
      · exact hlc
      · exact Nat.le_refl _
    have hb32 : Try.prog.bytesOf 64 = 32 := by kernel_rfl
    have c2 : Try.prog.cellsOf 64 = 2 := by kernel_rfl
    have ci : Try.prog.cellsOf 3 = 1 := by kernel_rfl
    have cs : Try.prog.cellsOf 22 = 1 := by kernel_rfl
    have each : ∀ j, j < len → ∃ y : (Int × Option Addr × Nat × Nat) × List UInt8, W.cell? (x.add (j * 2)) = some (.int .i64 y.1.1) ∧ W.cell? ⟨(x.add (j * 2)).block, (x.add (j * 2)).off + 1, none⟩ = some (.slice y.1.2.1 y.1.2.2.1 y.1.2.2.2) ∧ Bs W y.1.2.1 y.1.2.2.1 y.1.2.2.2 y.2 ∧ -9223372036854775808 ≤ y.1.1 ∧ y.1.1 ≤ 9223372036854775807 := by
      intro j hj
      obtain ⟨cs', h1, h2⟩ := he j (by omega)
      rw [c2] at h1
      obtain ⟨_, hlen, hcell⟩ := World.cells?_some h1
      obtain ⟨ys, k, _, hy, _, hylen, hg⟩ := DataW.trod_struct Try.underlying64 h2
      match ys, hylen, cs', hlen with
      | [y0, y1], _, [v0, v1], _ =>
        have t0 : DataW.trod enc Try.prog W base spare held k 3 [v0] = some y0 := by simpa [ci] using hg 0 _ rfl
        have t1 : DataW.trod enc Try.prog W base spare held k 22 [v1] = some y1 := by simpa [ci, cs] using hg 1 _ rfl
        have z0 := hcell 0 (by omega)
        have z1 := hcell 1 (by omega)
        have hD : D j = .agg [y0.1, y1.1] := congrArg Prod.fst hy
        have hsub : ∀ q ∈ (DataW.agg [y0.1, y1.1]).weights Try.prog 64, q ≤ reachBytes := by
          intro q hq
          refine hw q ?_
          simp only [DataW.weights, Try.underlying25, List.mem_cons, List.mem_append]
          refine .inr (.inl (weightsAll_mem (j := j) (d := D j) ?_ q ?_))
          · simp [hj]
          · rw [hD]; exact hq
        have hw1 : ∀ q ∈ y1.1.weights Try.prog 22, q ≤ reachBytes := by
          intro q hq
          refine hsub q ?_
          simp only [DataW.weights, Try.underlying64]
          exact DataW.weights_mem_each (j := 1) (t := 22) (d := y1.1) rfl rfl q hq
        obtain ⟨B, mm, dd, xs, e1, hb⟩ := bs_of_fuel t1 hw1
        obtain ⟨i0, e0, _, w0⟩ := DataW.trod_int Try.underlying3 t0
        simp only [List.cons.injEq, and_true] at e0
        subst e0 e1
        exact ⟨((i0, B, mm, dd), xs), by simpa [Addr.add] using z0, by simpa [Addr.add] using z1, hb, (int_bounds w0).1, (int_bounds w0).2⟩
    have hl2 : len ≤ 140737488355328 := by
      have := hw ((((List.range len).map D).length + ((List.range (m - len)).map fun j => D (len + j)).length) * Try.prog.bytesOf 64) (by simp [DataW.weights, Try.underlying25])
      have h2 := Nat.le_trans (Nat.le_mul_of_pos_right _ (by rw [hb32]; omega)) this
      simp [reachBytes] at h2
      omega
    obtain ⟨y, hy⟩ := Go.Deep.choose_lt each
    have hev : ∀ (k j : Nat) (u : Value), (wv ((List.range' k (len - k)).map fun j => (y j).1))[j]? = some u → k ≤ len → W.cell? (x.add (k * 2 + j)) = some u := by
      intro k
      induction hn : len - k generalizing k with
      | zero => intro j u hu _; simp [wv] at hu
      | succ m ih =>
        intro j u hu hk
        rw [List.range'_succ, List.map_cons, wv_cons] at hu
        obtain ⟨c0, c1, _⟩ := hy k (by omega)
        match j, hu with
        | 0, hu => injection hu with hu; rw [← hu]; exact c0
        | 1, hu =>
          injection hu with hu
          rw [← hu, ← add_add]
          rw [← c1]
          obtain ⟨b, o, s⟩ := x
          simp only [Addr.add]
          split <;> simp_all
        | j + 2, hu =>
          have := ih (k + 1) (by omega) j u hu (by omega)
          rw [show k * 2 + (j + 2) = (k + 1) * 2 + j by omega]
          exact this
    refine ⟨(List.range' 0 len).map fun j => (y j).1, (List.range' 0 len).map fun j => ((y j).1.1, (y j).2), ⟨by simp, hlc, by simpa [maxLen] using hm, hl2, fun _ => ⟨x, rfl, fun j u hu => ?_⟩⟩, by simp, ?_⟩
    · have := hev 0 j u hu (Nat.zero_le _)
      rwa [Nat.zero_mul, Nat.zero_add] at this
    · intro j p hj
      have hjl : j < len := by
        have := (List.getElem?_eq_some_iff.1 hj).1
        simpa using this
      obtain ⟨_, _, hb, hi⟩ := hy j hjl
      have e1 : ((List.range' 0 len).map fun j => (y j).1)[j]? = some (y j).1 := by simp [hjl]
      rw [e1] at hj
      injection hj with hj
      subst hj
      exact ⟨((y j).1.1, (y j).2), by simp [hjl], rfl, hb, Free.arg hb, hi⟩
end Go.Proofs.Ythhalmjapiempaa
