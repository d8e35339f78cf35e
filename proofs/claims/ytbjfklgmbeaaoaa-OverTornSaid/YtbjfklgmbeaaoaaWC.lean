/- over's chain of pages. -/
import Derived.Test.YtbjfklgmbeaaoaaV7
set_option linter.unusedVariables false
set_option linter.unusedSimpArgs false
namespace Go.Proofs.Ytbjfklgmbeaaoaa
open Go.RowKit

/-- Pages that the call made, by their headers. -/
structure Pgs (W : World) (base : Nat) (hs : List SH) (l : List (List UInt8)) : Prop where
  len : hs.length = l.length
  each : ∀ (j : Nat) (p : SH), hs[j]? = some p → ∃ q, l[j]? = some q ∧ Ow W base p.1 p.2.1 p.2.2 q
theorem Pgs.nil (W : World) (base : Nat) : Pgs W base [] [] := ⟨rfl, fun j p h => by simp at h⟩
theorem Pgs.below {W W1 : World} {base : Nat} {hs : List SH} {l : List (List UInt8)} (h : Pgs W base hs l) (hB : Below W.heap.size W W1) : Pgs W1 base hs l :=
  ⟨h.len, fun j p hj => by obtain ⟨q, a, b⟩ := h.each j p hj; exact ⟨q, a, b.below hB⟩⟩
theorem Pgs.shs {W : World} {base : Nat} {hs : List SH} {l : List (List UInt8)} (h : Pgs W base hs l) : Shs W hs l :=
  ⟨h.len, fun j p hj => by obtain ⟨q, a, b⟩ := h.each j p hj; exact ⟨q, a, b.bs⟩⟩
theorem Pgs.snoc {W : World} {base : Nat} {hs : List SH} {l : List (List UInt8)} {p : SH} {q : List UInt8} (h : Pgs W base hs l) (k : Ow W base p.1 p.2.1 p.2.2 q) : Pgs W base (hs ++ [p]) (l ++ [q]) := by
  refine ⟨by rw [List.length_append, List.length_append, h.len]; rfl, fun j z hj => ?_⟩
  rcases Nat.lt_or_ge j hs.length with hl | hl
  · rw [List.getElem?_append_left hl] at hj
    rw [List.getElem?_append_left (by rw [← h.len]; exact hl)]
    exact h.each j z hj
  · rw [List.getElem?_append_right hl] at hj
    rw [List.getElem?_append_right (by rw [← h.len]; exact hl), ← h.len]
    have hz : j - hs.length = 0 := by
      rcases Nat.eq_zero_or_pos (j - hs.length) with h0 | h0
      · exact h0
      · rw [List.getElem?_eq_none (by simp; omega)] at hj; cases hj
    rw [hz] at hj ⊢
    injection hj with hj
    subst hj
    exact ⟨q, rfl, k⟩
theorem Ow.typed {W : World} {base b2 n c m d k : Nat} {A B : Option Addr} {xs : List UInt8} {T : TypeId} {ys : List Value} (h : Ow W base A n c xs) (hT : T ≠ 5) (k : Oc W b2 T k B m d ys) (i : Nat) (hA : A = some ⟨i, 0, none⟩) : B ≠ some ⟨i, 0, none⟩ := fun hB => by
  rcases h.row.2 with ⟨q, _⟩ | ⟨g, cap, cur, q, _, hg, _⟩
  · rw [hA] at q; cases q
  · rcases k.row.2 with ⟨q2, _⟩ | ⟨g2, cap2, cur2, q2, _, hg2, _⟩
    · rw [hB] at q2; cases q2
    · rw [hA] at q
      rw [hB] at q2
      injection q with q _ _
      injection q with q
      injection q with q
      injection q2 with q2 _ _
      injection q2 with q2
      injection q2 with q2
      subst q q2
      rw [hg] at hg2
      injection hg2 with hg2
      injection hg2 with _ hg2 _
      exact hT hg2.symm
theorem Ow.grw2 {W W1 : World} {base b2 n c m d k : Nat} {A B : Option Addr} {xs : List UInt8} {T : TypeId} {ys : List Value} (h : Ow W base A n c xs) (hT : T ≠ 5) (k : Oc W b2 T k B m d ys) (hg : Grw B W W1) : Ow W1 base A n c xs :=
  h.kept fun g e hl => hg.block g hl (h.typed hT k g e)
theorem Pgs.grw2 {W W1 : World} {base b2 m d k : Nat} {B : Option Addr} {hs : List SH} {l : List (List UInt8)} {T : TypeId} {ys : List Value} (h : Pgs W base hs l) (hT : T ≠ 5) (k : Oc W b2 T k B m d ys) (hg : Grw B W W1) : Pgs W1 base hs l :=
  ⟨h.len, fun j p hj => by obtain ⟨q, a, b⟩ := h.each j p hj; exact ⟨q, a, b.grw2 hT k hg⟩⟩
set_option maxHeartbeats 4000000 in
set_option maxRecDepth 100000 in
theorem chain_any (g : Int) (B : Option Addr) (m d : Nat) (xs : List UInt8) (A : Option Addr) (n c : Nat) (zs : List Int) (w : World) (hg : 1 ≤ g ∧ g ≤ 3) (hb : Bs w B m d xs) (hz : Rc w 1 A n c (iv zs)) (hm : m ≤ 100000) (hn : n ≤ 100000) (hz2 : ∀ z, z ∈ zs → -9223372036854775808 ≤ z ∧ z ≤ 9223372036854775807) :
    Calls Try.prog 54 #[.int .i64 g, .slice B m d, .slice A n c] w fun e w' => ∃ A1 c1 hs, e = .returned (.slice A1 n c1) ∧ Oc w' w.heap.size 27 1 A1 n c1 (shl hs) ∧ Pgs w' w.heap.size hs (chL g xs zs) ∧ Below w.heap.size w w' := by
  have hlen : zs.length = n := by have := hz.len; rw [iv_len] at this; omega
  have hlim := hz.lim
  have hle := hz.le
  have hcap := hz.cap
  have HZ := Aside0.mk hz
  have HX := Aside0.mk hb
  have HN := Aside0.mk hlen
  have HM := Aside0.mk hb.len
  have HZ2 := Aside0.mk hz2
  obtain ⟨cp, hcp⟩ := Int.eq_ofNat_of_zero_le (show 0 ≤ cpI g by rcases (show g = 1 ∨ g = 2 ∨ g = 3 by omega) with h | h | h <;> rw [h] <;> decide)
  have hcp1 : 240 ≤ cp ∧ cp ≤ 248 := by
    have : cpI g = 248 ∨ cpI g = 240 := by rcases (show g = 1 ∨ g = 2 ∨ g = 3 by omega) with h | h | h <;> rw [h] <;> decide
    omega
  have HCP := Aside0.mk hcp
  clear hz hlen hb hz2 hcp hg
  go_enter Try.func54, Try.ntmps54
  go_wp2_with fail
  go_loopg [1, 7, 15] n (fun gk v1 v7 v15 wr => ∃ (j mj dj cc : Nat) (Bj A1 : Option Addr) (hs : List SH), Aside (gk + j = n) ∧ v15 = .int .i64 (j : Int) ∧ v1 = .slice Bj mj dj ∧ v7 = .slice A1 j cc ∧ Aside0 (Bs w Bj mj dj (xs.drop (j * cp)) ∧ Oc wr w.heap.size 27 1 A1 j cc (shl hs) ∧ Pgs wr w.heap.size hs ((chL g xs zs).take j) ∧ Below w.heap.size w wr))
  case atStart => exact ⟨0, m, d, 0, B, none, [], rfl, rfl, rfl, rfl, ⟨by rw [Nat.zero_mul, List.drop_zero]; exact HX.out, Oc.nil _ _ _ _, Pgs.nil _ _, Below.refl _ _⟩⟩
  case round =>
    obtain ⟨j, mj, dj, cc, Bj, A1, hs, hk, rfl, rfl, rfl, hI⟩ := hrel
    have hjm : j ≤ n := by have := hk.out; omega
    have hmj : mj = m - j * cp := by have := hI.out.1.len; rw [List.length_drop, HM.out] at this; omega
    have HMJ := Aside0.mk hmj
    have hmm : mj ≤ 100000 := by omega
    clear hmj
    rcases Nat.lt_or_ge j n with hlt | hge
    · have dj1 : decide ((j : Int) < (n : Int)) = true := decide_eq_true (by omega)
      have djn : (j : Int) < (n : Int) := by omega
      obtain ⟨j1, hj1⟩ : ∃ j1, j + 1 = j1 := ⟨_, rfl⟩
      have wj : IntKind.i64.wrap ((j : Int) + 1) = (j1 : Int) := (IntWalk.i64_in _ (by omega)).trans (by omega)
      have HJ1 := Aside0.mk hj1
      have hj1n : j1 ≤ n := by omega
      clear hj1
      go_upto_region 6 with (go_at_call 40; refine (cap_any g _).mono ?_; rintro e w1 ⟨rfl, hB⟩; rw [HCP.out]; (have H1 := Aside0.mk hB); clear hB)
      obtain ⟨mm, hmmE, hmm2⟩ : ∃ mm : Nat, (if cp < mj then (cp : Int) else (mj : Int)) = (mm : Int) ∧ mm = min mj cp := ⟨min mj cp, by split <;> omega, rfl⟩
      rw [hmmE]
      have HMM := Aside0.mk hmm2
      have hmm3 : mm ≤ mj := by omega
      have hmm4 : mm ≤ 248 := by omega
      clear hmmE hmm2
      go_upto_region 7 with fail
      have hB2 := (Below.refl _ w1).alloc (Nat.le_refl _) (.cells #[.int .i64 79, .int .i64 g, .int .i64 (mm : Int), .int .i64 0] 53)
      have hr2 := heap_alloc_new w1 (.cells #[.int .i64 79, .int .i64 g, .int .i64 (mm : Int), .int .i64 0] 53)
      obtain ⟨w2, hw2⟩ : ∃ X, w1.alloc (.cells #[.int .i64 79, .int .i64 g, .int .i64 (mm : Int), .int .i64 0] 53) = X := ⟨_, rfl⟩
      obtain ⟨N, hN⟩ : ∃ X, w1.heap.size = X := ⟨_, rfl⟩
      rw [hw2, hN] at hr2
      rw [hw2] at hB2
      rw [hw2, hN]
      have H2 := Aside0.mk (And.intro hr2 hB2)
      have HNN := Aside0.mk hN
      clear hB2 hr2 hw2 hN
      go_upto_if 30 with fail
      obtain ⟨nx, hnx⟩ : ∃ x, zs.getD j1 0 = x := ⟨_, rfl⟩
      have HNX := Aside0.mk hnx
      have HNB := Aside0.mk (show -9223372036854775808 ≤ nx ∧ nx ≤ 9223372036854775807 by
        rw [← hnx, List.getD_eq_getElem?_getD]
        cases hq : zs[j1]? with
        | none => exact ⟨by decide, by decide⟩
        | some z => exact HZ2.out z (List.mem_of_getElem? hq))
      clear hnx
      go_cut [] (fun wx => Aside0 (Below w1.heap.size w1 wx ∧ wx.heap[N]? = some (.cells #[.int .i64 79, .int .i64 g, .int .i64 (mm : Int), .int .i64 nx] 53)))
      case first =>
        by_cases q : (j1 : Int) < (n : Int)
        · have dq : decide ((j1 : Int) < (n : Int)) = true := decide_eq_true q
          obtain ⟨ad, z, rfl, hzj, k0⟩ := HZ.out.int j1 (by omega)
          have hzn : z = nx := by rw [← HNX.out]; exact (getD_of hzj).symm
          subst hzn
          have k1 : w2.cell? (ad.add j1) = some (.int .i64 z) := ((below_then hI.out.2.2.2 hI.out.2.2.2.size (below_then H1.out H1.out.size H2.out.2)).cell (World.block_lt_of_cell? w _ k0)).trans k0
          obtain ⟨z0, z1, z2, z3⟩ := item_cells2 H2.out.1
          have yN := fun i => Go.Joins.unfrozen_of_block H2.out.1 i
          have H3 := Aside0.mk (And.intro (below_setc (j := 3) (.int .i64 z) H2.out.2 (by rw [HNN.out]; exact Nat.le_refl _)) (show (w2.setCell ⟨N, 3, none⟩ (.int .i64 z)).heap[N]? = some (.cells #[.int .i64 79, .int .i64 g, .int .i64 (mm : Int), .int .i64 z] 53) by rw [heap_setCell_same w2 N 3 _ _ _ H2.out.1]; rfl))
          clear hzj k0
          go_wp2_with fail
          go_meet
          exact H3
        · have dq : decide ((j1 : Int) < (n : Int)) = false := decide_eq_false q
          have hz0 : nx = 0 := by
            rw [← HNX.out, List.getD_eq_getElem?_getD, List.getElem?_eq_none (by rw [HN.out]; omega)]
            rfl
          subst hz0
          go_wp2_with fail
          go_meet
          exact ⟨H2.out.2, H2.out.1⟩
      case rest =>
        have HC := hcut
        clear hcut
        go_upto_region 9 with fail
        have hBd := (below_drew HC.out.1 : Below w1.heap.size w1 wc.drew)
        obtain ⟨u0, hu0⟩ : ∃ X, wc.drew = X := ⟨_, rfl⟩
        have hL0 : u0.cell? ⟨N, 0, none⟩ = some (.int .i64 79) ∧ u0.cell? ⟨N, 1, none⟩ = some (.int .i64 g) ∧ u0.cell? ⟨N, 2, none⟩ = some (.int .i64 (mm : Int)) ∧ u0.cell? ⟨N, 3, none⟩ = some (.int .i64 nx) := by
          rw [← hu0]
          exact item_cells2 (show wc.drew.heap[N]? = _ from HC.out.2)
        rw [hu0] at hBd
        have HD := Aside0.mk (And.intro hBd hL0)
        have hb0 : Below w.heap.size w u0 := below_then hI.out.2.2.2 hI.out.2.2.2.size (below_then H1.out H1.out.size hBd)
        have HB0 := Aside0.mk hb0
        have HY := Aside0.mk (((hI.out.1.below hb0).take mm hmm3))
        clear hBd hL0 hb0
        have sl := fun W => sl8_h W Bj mj dj .i64 (mm : Int) (by omega) (by have := hI.out.1.le; omega)
        have slt : ((mm : Int)).toNat = mm := by omega
        refine wp_region_M (fun j => decide (j < 10)) (fun w' => w'.cell? ⟨N, 0, none⟩ = some (.int .i64 79) ∧ w'.cell? ⟨N, 1, none⟩ = some (.int .i64 g) ∧ w'.cell? ⟨N, 2, none⟩ = some (.int .i64 (mm : Int)) ∧ w'.cell? ⟨N, 3, none⟩ = some (.int .i64 nx)) (by kernel_rfl) ?_
        rw [hu0]
        clear hu0
        refine wpAnyM_take (i := 0) (v := ?_) (by simp only [List.getElem?_toArray, List.getElem?_cons_succ, List.getElem?_cons_zero]; rfl) (by kernel_rfl) (by kernel_rfl) (by kernel_rfl) (by kernel_rfl) (by exact fun _ _ _ h => h) (Or.inl ⟨by rfl, ?_⟩) HD.out.2 ?_
        rotate_left
        · (intro w' hSw; (try dsimp only at hSw); go_simp; try with_reducible rfl)
        try simp only [Act.put, List.setIfInBounds_toArray, List.set_cons_zero, List.set_cons_succ]
        refine wpAnyM_take (i := 1) (v := ?_) (by simp only [List.getElem?_toArray, List.getElem?_cons_succ, List.getElem?_cons_zero]; rfl) (by kernel_rfl) (by kernel_rfl) (by kernel_rfl) (by kernel_rfl) (by exact fun _ _ _ h => h) (Or.inl ⟨by rfl, ?_⟩) HD.out.2 ?_
        rotate_left
        · (intro w' hSw; (try dsimp only at hSw); go_simp; try with_reducible rfl)
        try simp only [Act.put, List.setIfInBounds_toArray, List.set_cons_zero, List.set_cons_succ]
        refine wpAnyM_take (i := 2) (v := ?_) (by simp only [List.getElem?_toArray, List.getElem?_cons_succ, List.getElem?_cons_zero]; rfl) (by kernel_rfl) (by kernel_rfl) (by kernel_rfl) (by kernel_rfl) (by exact fun _ _ _ h => h) (Or.inl ⟨by rfl, ?_⟩) HD.out.2 ?_
        rotate_left
        · (intro w' hSw; (try dsimp only at hSw); go_simp; try with_reducible rfl)
        try simp only [Act.put, List.setIfInBounds_toArray, List.set_cons_zero, List.set_cons_succ]
        refine wpAnyM_take (i := 3) (v := ?_) (by simp only [List.getElem?_toArray, List.getElem?_cons_succ, List.getElem?_cons_zero]; rfl) (by kernel_rfl) (by kernel_rfl) (by kernel_rfl) (by kernel_rfl) (by exact fun _ _ _ h => h) (Or.inl ⟨by rfl, ?_⟩) HD.out.2 ?_
        rotate_left
        · (intro w' hSw; (try dsimp only at hSw); go_simp; try with_reducible rfl)
        try simp only [Act.put, List.setIfInBounds_toArray, List.set_cons_zero, List.set_cons_succ]
        refine wpAnyM_one (i := 4) (by kernel_rfl) (by simp only [List.getElem?_toArray, List.getElem?_cons_succ, List.getElem?_cons_zero]; rfl) ?_
        go_wp2_with (go_at_call 35; refine (wrap_any 79 g (mm : Int) nx Bj mm dj _ u0 HY.out ⟨by omega, by omega⟩ HNB.out).mono ?_; rintro e w5 ⟨A5, c5, rfl, hO, hB⟩; (have H5 := Aside0.mk (And.intro hO hB)); clear hO hB)
        have HS5 := Aside0.mk (show w5.cell? ⟨N, 0, none⟩ = some (.int .i64 79) ∧ w5.cell? ⟨N, 1, none⟩ = some (.int .i64 g) ∧ w5.cell? ⟨N, 2, none⟩ = some (.int .i64 (mm : Int)) ∧ w5.cell? ⟨N, 3, none⟩ = some (.int .i64 nx) from ⟨cell_below H5.out.2 HD.out.2.1, cell_below H5.out.2 HD.out.2.2.1, cell_below H5.out.2 HD.out.2.2.2.1, cell_below H5.out.2 HD.out.2.2.2.2⟩)
        refine ⟨HS5.out, ?_⟩
        try simp only [Act.put, List.setIfInBounds_toArray, List.set_cons_zero, List.set_cons_succ]
        refine wpAnyM_take (i := 5) (v := ?_) (by simp only [List.getElem?_toArray, List.getElem?_cons_succ, List.getElem?_cons_zero]; rfl) (by kernel_rfl) (by kernel_rfl) (by kernel_rfl) (by kernel_rfl) (by exact fun _ _ _ h => h) (Or.inl ⟨by rfl, ?_⟩) HS5.out ?_
        rotate_left
        · (intro w' hSw; (try dsimp only at hSw); go_simp; try with_reducible rfl)
        try simp only [Act.put, List.setIfInBounds_toArray, List.set_cons_zero, List.set_cons_succ]
        refine wpAnyM_take (i := 6) (v := ?_) (by simp only [List.getElem?_toArray, List.getElem?_cons_succ, List.getElem?_cons_zero]; rfl) (by kernel_rfl) (by kernel_rfl) (by kernel_rfl) (by kernel_rfl) (by exact fun _ _ _ h => h) (Or.inl ⟨by rfl, ?_⟩) HS5.out ?_
        rotate_left
        · (intro w' hSw; (try dsimp only at hSw); go_simp; try with_reducible rfl)
        try simp only [Act.put, List.setIfInBounds_toArray, List.set_cons_zero, List.set_cons_succ]
        refine wpAnyM_take (i := 8) (v := ?_) (by simp only [List.getElem?_toArray, List.getElem?_cons_succ, List.getElem?_cons_zero]; rfl) (by kernel_rfl) (by kernel_rfl) (by kernel_rfl) (by kernel_rfl) (by exact fun _ _ _ h => h) (Or.inl ⟨by rfl, ?_⟩) HS5.out ?_
        rotate_left
        · (intro w' hSw; (try dsimp only at hSw); go_simp; try with_reducible rfl)
        try simp only [Act.put, List.setIfInBounds_toArray, List.set_cons_zero, List.set_cons_succ]
        refine wpAnyM_take (i := 7) (v := ?_) (by simp only [List.getElem?_toArray, List.getElem?_cons_succ, List.getElem?_cons_zero]; rfl) (by kernel_rfl) (by kernel_rfl) (by kernel_rfl) (by kernel_rfl) (by exact fun _ _ _ h => h) (Or.inl ⟨by rfl, ?_⟩) HS5.out ?_
        rotate_left
        · (intro w' hSw; (try dsimp only at hSw); go_simp; try with_reducible rfl)
        try simp only [Act.put, List.setIfInBounds_toArray, List.set_cons_zero, List.set_cons_succ]
        refine wpAnyM_take (i := 9) (v := ?_) (by simp only [List.getElem?_toArray, List.getElem?_cons_succ, List.getElem?_cons_zero]; rfl) (by kernel_rfl) (by kernel_rfl) (by kernel_rfl) (by kernel_rfl) (by exact fun _ _ _ h => h) (Or.inl ⟨by rfl, ?_⟩) HS5.out ?_
        rotate_left
        · (intro w' hSw; (try dsimp only at hSw); go_simp; try with_reducible rfl)
        try simp only [Act.put, List.setIfInBounds_toArray, List.set_cons_zero, List.set_cons_succ]
        refine wpAnyM_done (by kernel_rfl) ?_ _
        have h6 : Below w.heap.size w w5 := below_then HB0.out HB0.out.size H5.out.2
        have HW5 := Aside0.mk (And.intro h6 (And.intro (hI.out.2.1.below (below_then H1.out H1.out.size (below_then HD.out.1 HD.out.1.size H5.out.2))) (hI.out.2.2.1.below (below_then H1.out H1.out.size (below_then HD.out.1 HD.out.1.size H5.out.2)))))
        obtain ⟨pg, hpg⟩ : ∃ p, wrB 79 g (mm : Int) nx ((xs.drop (j * cp)).take mm) = p := ⟨_, rfl⟩
        have hOp : Ow w5 w.heap.size A5 pg.length c5 pg := by rw [← hpg]; exact H5.out.1.mono HB0.out.size
        have HPG := Aside0.mk (And.intro hpg hOp)
        rw [hpg]
        have sl2 := fun W => sl8_l W Bj mj dj .i64 (mm : Int) (by omega) (by omega)
        have hws := h6.size
        clear h6 hpg hOp
        go_wp2_with (at_builtin; refine wpl_oc w.heap.size rfl _ _ 43 27 (.slice none 0 0) 1 24 rfl Try.underlying43 infoSl rfl (by omega) (by omega) (by omega) A1 j _ w5.heap.size (shl hs) [.slice A5 pg.length c5] rfl rfl (HW5.out.2.1.below ((Below.refl _ w5).alloc (Nat.le_refl _) _)) rfl (lit1_range _ _) (shl_one [(A5, pg.length, c5)]) (by have := hws; simp; omega) (by omega) ?_; intro A2 c2 w6 hO hG hA)
        go_roundg (n - j1)
        case measure => have := hk.out; have := HJ1.out; omega
        case rel =>
          have e1 := HJ1.out
          have e2 : j1 * cp = j * cp + cp := by rw [← e1, Nat.succ_mul]
          have hal := (Below.refl w5.heap.size w5).alloc (Nat.le_refl _) (.cells #[.slice A5 pg.length c5] 27)
          have hp6 := (HW5.out.2.2.below hal).grw2 (by decide) (HW5.out.2.1.below hal) hG.out
          have hg6 := (HPG.out.2.below hal).grw2 (by decide) (HW5.out.2.1.below hal) hG.out
          refine ⟨j1, mj - mm, dj - mm, c2, cutA Bj dj mm, A2, hs ++ [(A5, pg.length, c5)], (by show n - j1 + j1 = n; omega), by go_num, rfl, by rw [← e1], ⟨?_, ?_, ?_, ?_⟩⟩
          · have h9 := hI.out.1.drop mm hmm3
            rw [List.drop_drop] at h9
            have h8 : xs.drop (j * cp + mm) = xs.drop (j1 * cp) := by
              have h7 := HMM.out
              have h6 := HMJ.out
              have h5 := HM.out
              by_cases q : cp ≤ mj
              · rw [e2, show mm = cp by omega]
              · rw [List.drop_eq_nil_of_le (by omega), List.drop_eq_nil_of_le (by omega)]
            rwa [h8] at h9
          · have h9 := hO.out
            rw [shl_app, ← e1]
            exact h9
          · have h9 := hp6.snoc (p := (A5, pg.length, c5)) hg6
            rw [← e1, ch_get (by rw [HN.out]; exact hlt)]
            have h8 : chP g xs zs j = pg := by
              rw [← HPG.out.1]
              unfold chP
              have e3 : (cpI g).toNat = cp := by rw [HCP.out]; rfl
              rw [e3, HJ1.out, HNX.out, HM.out, ← HMJ.out, ← HMM.out]
            rw [h8]
            exact h9
          · exact hG.out.below HW5.out.1 (fun k q => HW5.out.2.1.lo k q) hws
    · obtain rfl : n = j := by omega
      have d1 : decide ((n : Int) < (n : Int)) = false := by simp
      have h9 := hI.out.2.2.1
      rw [List.take_of_length_le (by rw [chL_len, HN.out]; exact Nat.le_refl _)] at h9
      have H9 := Aside0.mk (And.intro hI.out.2.1 (And.intro h9 hI.out.2.2.2))
      clear h9
      go_wp2_with fail
      go_ret
      exact ⟨A1, cc, hs, rfl, H9.out.1, H9.out.2.1, H9.out.2.2⟩
end Go.Proofs.Ytbjfklgmbeaaoaa
