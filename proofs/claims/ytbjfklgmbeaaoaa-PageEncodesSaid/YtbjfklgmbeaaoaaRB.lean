/- A node of the document among the arguments, opened. -/
import Derived.Test.YtbjfklgmbeaaoaaZ6
import Derived.Test.YtbjfklgmbeaaoaaNL
import Derived.Lib.SmallJoins
set_option linter.unusedVariables false
set_option linter.unusedSimpArgs false
namespace Go.Proofs.Ytbjfklgmbeaaoaa
open Go.ChangeShapes Go.WideShapes Go.ChangeAt Go.RowKit Go.Joins Go.Deep

instance : Inhabited IH := ⟨⟨(none, 0, 0), (none, 0, 0), 0, 0⟩⟩
instance : Inhabited IV := ⟨⟨[], [], 0, 0⟩⟩
instance : Inhabited KH := ⟨⟨(none, 0, 0), 0⟩⟩
instance : Inhabited KV := ⟨⟨[], 0⟩⟩
set_option maxRecDepth 100000 in
theorem items_of_fuel {H : Type} {enc : TypeId × Value → H} {W : World} {base fuel : Nat} {spare : Nat → Bool} {held : Bool} {v : Value} {dp : DataW H × List MemPlace}
    (hf : DataW.trod enc Try.prog W base spare held fuel 60 [v] = some dp) (hw : ∀ q ∈ dp.1.weights Try.prog 60, q ≤ reachBytes) : ∃ A n c hs l, v = .slice A n c ∧ RcL W 4 A n c (ihv hs) ∧ hs.length = n ∧ Its W hs l := by
  obtain ⟨d, ps⟩ := dp
  rcases Go.Deep.open_slice Try.underlying60 hf with ⟨hcs, _⟩ | ⟨x, len, cap, m, n, D, Pl, hcs, _, hlc, hm, hmm, hx, he⟩
  · simp only [List.cons.injEq, and_true] at hcs
    subst hcs
    exact ⟨none, 0, 0, [], [], rfl, ⟨rfl, Nat.le_refl _, by omega, by omega, fun u h => absurd h List.not_mem_nil, fun h => absurd h (by omega)⟩, rfl, ⟨rfl, fun j p h => by simp at h⟩⟩
  · simp only [List.cons.injEq, and_true] at hcs
    subst hcs
    simp only [Prod.mk.injEq] at hx
    obtain ⟨hd, _⟩ := hx
    subst hd
    have hle : len ≤ m := by
      rw [hmm]
      split
      · exact hlc
      · exact Nat.le_refl _
    have hb32 : Try.prog.bytesOf 119 = 64 := by kernel_rfl
    have c2 : Try.prog.cellsOf 119 = 4 := by kernel_rfl
    have ci : Try.prog.cellsOf 3 = 1 := by kernel_rfl
    have cs : Try.prog.cellsOf 27 = 1 := by kernel_rfl
    have sub : ∀ (j : Nat) (hj : j < len) (z : DataW H), D j = z → ∀ q ∈ z.weights Try.prog 119, q ≤ reachBytes := by
      intro j hj z hz q hq
      refine hw q ?_
      simp only [DataW.weights, Try.underlying60, List.mem_cons, List.mem_append]
      refine .inr (.inl (weightsAll_mem (j := j) (d := D j) ?_ q ?_))
      · simp [hj]
      · rw [hz]; exact hq
    have each : ∀ j, j < len → ∃ y : IH × IV, W.cell? (x.add (j * 4)) = some (shv y.1.k) ∧ W.cell? ⟨(x.add (j * 4)).block, (x.add (j * 4)).off + 1, none⟩ = some (shv y.1.v) ∧ W.cell? ⟨(x.add (j * 4)).block, (x.add (j * 4)).off + 2, none⟩ = some (.int .i64 y.1.s) ∧ W.cell? ⟨(x.add (j * 4)).block, (x.add (j * 4)).off + 3, none⟩ = some (.int .i64 y.1.r) ∧ Bsh W y.1.k y.2.k ∧ Bsh W y.1.v y.2.v ∧ y.1.s = y.2.s ∧ y.1.r = y.2.r := by
      intro j hj
      obtain ⟨cs', h1, h2⟩ := he j (by omega)
      rw [c2] at h1
      obtain ⟨_, hlen, hcell⟩ := World.cells?_some h1
      obtain ⟨ys, k, _, hy, _, hylen, hg⟩ := DataW.trod_struct Try.underlying119 h2
      match ys, hylen, cs', hlen with
      | [y0, y1, y2, y3], _, [v0, v1, v2, v3], _ =>
        have t0 : DataW.trod enc Try.prog W base spare held k 27 [v0] = some y0 := by simpa [ci, cs] using hg 0 _ rfl
        have t1 : DataW.trod enc Try.prog W base spare held k 27 [v1] = some y1 := by simpa [ci, cs] using hg 1 _ rfl
        have t2 : DataW.trod enc Try.prog W base spare held k 3 [v2] = some y2 := by simpa [ci, cs] using hg 2 _ rfl
        have t3 : DataW.trod enc Try.prog W base spare held k 3 [v3] = some y3 := by simpa [ci, cs] using hg 3 _ rfl
        have z0 := hcell 0 (by omega)
        have z1 := hcell 1 (by omega)
        have z2 := hcell 2 (by omega)
        have z3 := hcell 3 (by omega)
        have hD : D j = .agg [y0.1, y1.1, y2.1, y3.1] := congrArg Prod.fst hy
        have hsub := sub j hj _ hD
        obtain ⟨B, mm, dd, xs, e0, hb⟩ := bs_of_fuel t0 (fun q hq => hsub q (by simp only [DataW.weights, Try.underlying119]; exact DataW.weights_mem_each (j := 0) (t := 27) (d := y0.1) rfl rfl q hq))
        obtain ⟨C, mc, dc, xc, e1, hc⟩ := bs_of_fuel t1 (fun q hq => hsub q (by simp only [DataW.weights, Try.underlying119]; exact DataW.weights_mem_each (j := 1) (t := 27) (d := y1.1) rfl rfl q hq))
        obtain ⟨i2, e2, _, _⟩ := DataW.trod_int Try.underlying3 t2
        obtain ⟨i3, e3, _, _⟩ := DataW.trod_int Try.underlying3 t3
        simp only [List.cons.injEq, and_true] at e2 e3
        subst e0 e1 e2 e3
        exact ⟨(⟨(B, mm, dd), (C, mc, dc), i2, i3⟩, ⟨xs, xc, i2, i3⟩), by simpa [Addr.add, shv] using z0, by simpa [Addr.add, shv] using z1, by simpa [Addr.add, shv] using z2, by simpa [Addr.add, shv] using z3, hb, hc, rfl, rfl⟩
    have hl2 : len ≤ 140737488355328 := by
      have := hw ((((List.range len).map D).length + ((List.range (m - len)).map fun j => D (len + j)).length) * Try.prog.bytesOf 119) (by simp [DataW.weights, Try.underlying60])
      have h2 := Nat.le_trans (Nat.le_mul_of_pos_right _ (by rw [hb32]; omega)) this
      simp [reachBytes] at h2
      omega
    obtain ⟨y, hy⟩ := Go.Deep.choose_lt each
    have hev : ∀ (k j : Nat) (u : Value), (ihv ((List.range' k (len - k)).map fun j => (y j).1))[j]? = some u → k ≤ len → W.cell? (x.add (k * 4 + j)) = some u := by
      intro k
      induction hn : len - k generalizing k with
      | zero => intro j u hu _; simp [ihv] at hu
      | succ m ih =>
        intro j u hu hk
        rw [List.range'_succ, List.map_cons, show ∀ p r, ihv (p :: r) = ih4 p ++ ihv r from fun p r => rfl] at hu
        obtain ⟨c0, c1, c2, c3, _⟩ := hy k (by omega)
        match j, hu with
        | 0, hu => injection hu with hu; rw [← hu]; exact c0
        | 1, hu =>
          injection hu with hu
          rw [← hu, addN x (k * 4) 1 (by omega)]
          exact c1
        | 2, hu =>
          injection hu with hu
          rw [← hu, addN x (k * 4) 2 (by omega)]
          exact c2
        | 3, hu =>
          injection hu with hu
          rw [← hu, addN x (k * 4) 3 (by omega)]
          exact c3
        | j + 4, hu =>
          have := ih (k + 1) (by omega) j u hu (by omega)
          rw [show k * 4 + (j + 4) = (k + 1) * 4 + j by omega]
          exact this
    refine ⟨x, len, cap, (List.range' 0 len).map fun j => (y j).1, (List.range' 0 len).map fun j => (y j).2, rfl, ⟨by rw [ihv_len]; simp, hlc, by simpa [maxLen] using hm, hl2, ihv_one _, fun _ => ⟨x, rfl, fun j u hu => ?_⟩⟩, by simp, ⟨by simp, ?_⟩⟩
    · have := hev 0 j u hu (Nat.zero_le _)
      rwa [Nat.zero_mul, Nat.zero_add] at this
    · intro j p hj
      have hjl : j < len := by
        have := (List.getElem?_eq_some_iff.1 hj).1
        simpa using this
      obtain ⟨_, _, _, _, hb, hc, e2, e3⟩ := hy j hjl
      have e1 : ((List.range' 0 len).map fun j => (y j).1)[j]? = some (y j).1 := by simp [hjl]
      rw [e1] at hj
      injection hj with hj
      subst hj
      exact ⟨(y j).2, by simp [hjl], hb, hc, e2, e3⟩
set_option maxRecDepth 100000 in
theorem kids_of_fuel {H : Type} {enc : TypeId × Value → H} {W : World} {base fuel : Nat} {spare : Nat → Bool} {held : Bool} {v : Value} {dp : DataW H × List MemPlace}
    (hf : DataW.trod enc Try.prog W base spare held fuel 61 [v] = some dp) (hw : ∀ q ∈ dp.1.weights Try.prog 61, q ≤ reachBytes) : ∃ A n c hs l, v = .slice A n c ∧ RcL W 2 A n c (khv hs) ∧ hs.length = n ∧ Kds W hs l := by
  obtain ⟨d, ps⟩ := dp
  rcases Go.Deep.open_slice Try.underlying61 hf with ⟨hcs, _⟩ | ⟨x, len, cap, m, n, D, Pl, hcs, _, hlc, hm, hmm, hx, he⟩
  · simp only [List.cons.injEq, and_true] at hcs
    subst hcs
    exact ⟨none, 0, 0, [], [], rfl, ⟨rfl, Nat.le_refl _, by omega, by omega, fun u h => absurd h List.not_mem_nil, fun h => absurd h (by omega)⟩, rfl, ⟨rfl, fun j p h => by simp at h⟩⟩
  · simp only [List.cons.injEq, and_true] at hcs
    subst hcs
    simp only [Prod.mk.injEq] at hx
    obtain ⟨hd, _⟩ := hx
    subst hd
    have hle : len ≤ m := by
      rw [hmm]
      split
      · exact hlc
      · exact Nat.le_refl _
    have hb32 : Try.prog.bytesOf 120 = 32 := by kernel_rfl
    have c2 : Try.prog.cellsOf 120 = 2 := by kernel_rfl
    have ci : Try.prog.cellsOf 3 = 1 := by kernel_rfl
    have cs : Try.prog.cellsOf 27 = 1 := by kernel_rfl
    have sub : ∀ (j : Nat) (hj : j < len) (z : DataW H), D j = z → ∀ q ∈ z.weights Try.prog 120, q ≤ reachBytes := by
      intro j hj z hz q hq
      refine hw q ?_
      simp only [DataW.weights, Try.underlying61, List.mem_cons, List.mem_append]
      refine .inr (.inl (weightsAll_mem (j := j) (d := D j) ?_ q ?_))
      · simp [hj]
      · rw [hz]; exact hq
    have each : ∀ j, j < len → ∃ y : KH × KV, W.cell? (x.add (j * 2)) = some (shv y.1.k) ∧ W.cell? ⟨(x.add (j * 2)).block, (x.add (j * 2)).off + 1, none⟩ = some (.int .i64 y.1.r) ∧ Bsh W y.1.k y.2.k ∧ y.1.r = y.2.r := by
      intro j hj
      obtain ⟨cs', h1, h2⟩ := he j (by omega)
      rw [c2] at h1
      obtain ⟨_, hlen, hcell⟩ := World.cells?_some h1
      obtain ⟨ys, k, _, hy, _, hylen, hg⟩ := DataW.trod_struct Try.underlying120 h2
      match ys, hylen, cs', hlen with
      | [y0, y1], _, [v0, v1], _ =>
        have t0 : DataW.trod enc Try.prog W base spare held k 27 [v0] = some y0 := by simpa [ci, cs] using hg 0 _ rfl
        have t1 : DataW.trod enc Try.prog W base spare held k 3 [v1] = some y1 := by simpa [ci, cs] using hg 1 _ rfl
        have z0 := hcell 0 (by omega)
        have z1 := hcell 1 (by omega)
        have hD : D j = .agg [y0.1, y1.1] := congrArg Prod.fst hy
        have hsub := sub j hj _ hD
        obtain ⟨B, mm, dd, xs, e0, hb⟩ := bs_of_fuel t0 (fun q hq => hsub q (by simp only [DataW.weights, Try.underlying120]; exact DataW.weights_mem_each (j := 0) (t := 27) (d := y0.1) rfl rfl q hq))
        obtain ⟨i1, e1, _, _⟩ := DataW.trod_int Try.underlying3 t1
        simp only [List.cons.injEq, and_true] at e1
        subst e0 e1
        exact ⟨(⟨(B, mm, dd), i1⟩, ⟨xs, i1⟩), by simpa [Addr.add, shv] using z0, by simpa [Addr.add, shv] using z1, hb, rfl⟩
    have hl2 : len ≤ 140737488355328 := by
      have := hw ((((List.range len).map D).length + ((List.range (m - len)).map fun j => D (len + j)).length) * Try.prog.bytesOf 120) (by simp [DataW.weights, Try.underlying61])
      have h2 := Nat.le_trans (Nat.le_mul_of_pos_right _ (by rw [hb32]; omega)) this
      simp [reachBytes] at h2
      omega
    obtain ⟨y, hy⟩ := Go.Deep.choose_lt each
    have hev : ∀ (k j : Nat) (u : Value), (khv ((List.range' k (len - k)).map fun j => (y j).1))[j]? = some u → k ≤ len → W.cell? (x.add (k * 2 + j)) = some u := by
      intro k
      induction hn : len - k generalizing k with
      | zero => intro j u hu _; simp [khv] at hu
      | succ m ih =>
        intro j u hu hk
        rw [List.range'_succ, List.map_cons, show ∀ p r, khv (p :: r) = kh2 p ++ khv r from fun p r => rfl] at hu
        obtain ⟨c0, c1, _⟩ := hy k (by omega)
        match j, hu with
        | 0, hu => injection hu with hu; rw [← hu]; exact c0
        | 1, hu =>
          injection hu with hu
          rw [← hu, addN x (k * 2) 1 (by omega)]
          exact c1
        | j + 2, hu =>
          have := ih (k + 1) (by omega) j u hu (by omega)
          rw [show k * 2 + (j + 2) = (k + 1) * 2 + j by omega]
          exact this
    refine ⟨x, len, cap, (List.range' 0 len).map fun j => (y j).1, (List.range' 0 len).map fun j => (y j).2, rfl, ⟨by rw [khv_len]; simp, hlc, by simpa [maxLen] using hm, hl2, khv_one _, fun _ => ⟨x, rfl, fun j u hu => ?_⟩⟩, by simp, ⟨by simp, ?_⟩⟩
    · have := hev 0 j u hu (Nat.zero_le _)
      rwa [Nat.zero_mul, Nat.zero_add] at this
    · intro j p hj
      have hjl : j < len := by
        have := (List.getElem?_eq_some_iff.1 hj).1
        simpa using this
      obtain ⟨_, _, hb, e2⟩ := hy j hjl
      have e1 : ((List.range' 0 len).map fun j => (y j).1)[j]? = some (y j).1 := by simp [hjl]
      rw [e1] at hj
      injection hj with hj
      subst hj
      exact ⟨(y j).2, by simp [hjl], hb, e2⟩
theorem listB3 {α : Type} {l : List α} (h : l.length = 3) : ∃ c0 c1 c2, l = [c0, c1, c2] := by
  match l, h with
  | [c0, c1, c2], _ => exact ⟨c0, c1, c2, rfl⟩
set_option maxRecDepth 100000 in
theorem node_open {H : Type} {enc : TypeId × Value → H} {W : World} {base b0 : Nat} {spare : Nat → Bool} {held : Bool} {r : Reach} {v : Value} {d : DataW H} {ps : List MemPlace}
    (hv : Value.okWide Try.prog W r b0 63 v) (h : DataW.Trod enc Try.prog W base spare held 63 v d ps) (hw : ∀ q ∈ d.weights Try.prog 63, q ≤ reachBytes) :
    ∃ hh is ks nv, v = .agg (nhv hh) ∧ NdL W hh is ks nv := by
  obtain ⟨cs, rfl, hsz⟩ := okWide_struct Try.underlying63 hv
  have hC : Try.prog.cellsOf 63 = 3 := by kernel_rfl
  obtain ⟨l⟩ := cs
  obtain ⟨c0, c1, c2, rfl⟩ := listB3 (l := l) (hsz.trans hC)
  obtain ⟨fuel, hf⟩ := h
  have cb : Try.prog.cellsOf 4 = 1 := by kernel_rfl
  have ci : Try.prog.cellsOf 60 = 1 := by kernel_rfl
  have ck : Try.prog.cellsOf 61 = 1 := by kernel_rfl
  obtain ⟨ys, n, _, hx, _, hlen, hg⟩ := DataW.trod_struct Try.underlying63 hf
  obtain ⟨y0, y1, y2, rfl⟩ := listB3 (l := ys) hlen
  simp only [Prod.mk.injEq] at hx
  obtain ⟨hd, _⟩ := hx
  subst hd
  have g0 : DataW.trod enc Try.prog W base spare held n 4 [c0] = some y0 := by simpa [Value.cells, cb, ci, ck] using hg 0 _ rfl
  have g1 : DataW.trod enc Try.prog W base spare held n 60 [c1] = some y1 := by simpa [Value.cells, cb, ci, ck] using hg 1 _ rfl
  have g2 : DataW.trod enc Try.prog W base spare held n 61 [c2] = some y2 := by simpa [Value.cells, cb, ci, ck] using hg 2 _ rfl
  have hw' : ∀ (j : Nat) (t : TypeId) (d : DataW H), [4, 60, 61][j]? = some t → [y0.1, y1.1, y2.1][j]? = some d → ∀ q ∈ d.weights Try.prog t, q ≤ reachBytes := by
    intro j t d ht hd q hq
    refine hw q ?_
    simp only [DataW.weights, Try.underlying63]
    exact DataW.weights_mem_each (j := j) ht hd q hq
  obtain ⟨lf, e0, _⟩ := DataW.trod_bool Try.underlying4 g0
  obtain ⟨A1, n1, cc1, is, l1, e1, r1, m1, h1⟩ := items_of_fuel g1 (hw' 1 _ _ rfl rfl)
  obtain ⟨A2, n2, cc2, ks, l2, e2, r2, m2, h2⟩ := kids_of_fuel g2 (hw' 2 _ _ rfl rfl)
  simp only [List.cons.injEq, and_true] at e0
  subst e0 e1 e2
  exact ⟨⟨lf, (A1, n1, cc1), (A2, n2, cc2)⟩, is, ks, ⟨lf, l1, l2⟩, rfl, rfl, r1, r2, m1, m2, h1, h2⟩
end Go.Proofs.Ytbjfklgmbeaaoaa
