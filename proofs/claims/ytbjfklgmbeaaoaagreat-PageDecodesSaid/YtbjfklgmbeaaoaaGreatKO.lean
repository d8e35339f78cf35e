/- The walks of ref06's room, Many, Room, Fits. -/
import Derived.Test.YtbjfklgmbeaaoaaGreatNL
set_option linter.unusedVariables false
set_option linter.unusedSimpArgs false
namespace Go.Proofs.YtbjfklgmbeaaoaaGreat
open Go.RowKit

set_option maxHeartbeats 3000000 in
set_option maxRecDepth 100000 in
theorem r6room_any (h : NH) (is : List IH) (ks : List KH) (v : NV) (g : Int) (j : Nat) (w : World) (hn : Nd w h is ks v) (hg : 1 ≤ g ∧ g ≤ 3) (hj : j < (roomsL g v).length) :
    Calls Tryz.prog 98 #[.int .i64 g, .agg (nhv h), .int .i64 (j : Int)] w fun e w' => e = .returned (.int .i64 ((roomsL g v).getD j 0)) ∧ Below w.heap.size w w' := by
  have hd1 : decide (g < 1) = false := decide_eq_false (by omega)
  have hd2 : decide (3 < g) = false := decide_eq_false (by omega)
  have HG := Aside0.mk hg
  have hgb : genB g = true := decide_eq_true hg
  have HGB := Aside0.mk hgb
  clear hg hgb
  obtain ⟨lf, ⟨IA, In, Ic⟩, ⟨KA, Kn, Kc⟩⟩ := h
  have hbi : In ≤ 1000 := hn.bi
  have hbk : Kn ≤ 1000 := hn.bk
  have HLF := Aside0.mk (show lf = v.leaf from hn.leaf)
  have HLL := Aside0.mk (show v.items.length = In ∧ v.kids.length = Kn from ⟨by rw [← hn.its.len]; exact hn.li, by rw [← hn.kds.len]; exact hn.lk⟩)
  have hB0 := (Below.refl _ w).alloc (Nat.le_refl _) (.cells #[.bool lf, .slice IA In Ic, .slice KA Kn Kc] 35)
  have H0 := Aside0.mk (And.intro (heap_alloc_new w (.cells #[.bool lf, .slice IA In Ic, .slice KA Kn Kc] 35)) (And.intro (hn.below hB0) hB0))
  clear hn
  show Calls Tryz.prog 98 #[.int .i64 g, .agg #[.bool lf, .slice IA In Ic, .slice KA Kn Kc], .int .i64 (j : Int)] w _
  go_enter Tryz.func98, Tryz.ntmps98
  go_upto_region 1 with fail
  obtain ⟨w0, hw0⟩ : ∃ X, w.alloc (.cells #[.bool lf, .slice IA In Ic, .slice KA Kn Kc] 35) = X := ⟨_, rfl⟩
  obtain ⟨N, hN⟩ : ∃ X, w.heap.size = X := ⟨_, rfl⟩
  rw [hw0, hN] at H0
  rw [hw0, hN]
  have H0B := Aside0.mk (show Below w.heap.size w w0 by rw [hN]; exact H0.out.2.2)
  clear hB0 hw0 hN
  obtain ⟨y0, y1, y2⟩ := nd_cells H0.out.1
  cases lf with
  | true =>
    have hlt : j < In := by
      unfold roomsL at hj
      rw [← HLF.out, if_pos rfl, List.length_map, HLL.out.1] at hj
      exact hj
    have hjn : (j : Int) < (In : Int) := by omega
    clear hj
    obtain ⟨ad, p, e0, hp, c0, c1, c2, c3⟩ := H0.out.2.1.ri.item H0.out.2.1.li j hlt
    obtain ⟨q, hq, bk, bv, es, er⟩ := H0.out.2.1.its.each j p hp
    simp only at e0
    subst e0
    obtain ⟨⟨pk, pkn, pkc⟩, ⟨pv, pvn, pvc⟩, ps, pr⟩ := p
    obtain ⟨qk, qv, qs, qr⟩ := q
    unfold shv at c0 c1
    unfold Bsh at bk bv
    simp only at c0 c1 c2 c3 bk bv es er
    subst es er
    have HV := Aside0.mk (show (roomsL g v).getD j 0 = roomI g pkn pvn pr by
      refine getD_of ?_
      unfold roomsL
      rw [← HLF.out, if_pos rfl, List.getElem?_map, hq]
      show some (roomI g qk.length qv.length pr) = _
      rw [bk.len, bv.len])
    have HK := Aside0.mk (And.intro bk.lim bv.lim)
    clear hq bk bv hp
    go_wp2_with (go_at_call 102; refine (rroom_any g pk pkn pkc pv pvn pvc ps pr w0 HK.out.1 HK.out.2).mono ?_; rintro e w1 ⟨rfl, hB⟩; (have H1 := Aside0.mk (below_then H0B.out H0B.out.size hB)); clear hB)
    go_ret
    rw [HV.out]
    exact ⟨rfl, H1.out⟩
  | false =>
    have hlt : j < Kn := by
      unfold roomsL at hj
      rw [← HLF.out, if_neg (by decide), List.length_map, HLL.out.2] at hj
      exact hj
    have hjn : (j : Int) < (Kn : Int) := by omega
    clear hj
    go_upto_region 5 with fail
    have hBd := below_drew (Below.refl w0.heap.size w0)
    have H1 := Aside0.mk (And.intro (H0.out.2.1.below hBd) (And.intro ((hBd.block _ (Array.getElem?_eq_some_iff.1 H0.out.1).1).trans H0.out.1) (below_then H0B.out H0B.out.size hBd)))
    obtain ⟨u0, hu0⟩ : ∃ X, w0.drew = X := ⟨_, rfl⟩
    rw [hu0] at H1
    clear hBd y0 y1 y2
    obtain ⟨ad, p, e0, hp, c0, c1⟩ := H1.out.1.rk.kid H1.out.1.lk j hlt
    obtain ⟨q, hq, bk, er⟩ := H1.out.1.kds.each j p hp
    simp only at e0
    subst e0
    obtain ⟨⟨pk, pkn, pkc⟩, pr⟩ := p
    obtain ⟨qk, qr⟩ := q
    unfold shv at c0
    unfold Bsh at bk
    simp only at c0 bk er
    subst er
    have HV := Aside0.mk (show (roomsL g v).getD j 0 = 1 + (pkn : Int) + iwI g by
      refine getD_of ?_
      unfold roomsL
      rw [← HLF.out, if_neg (by decide), List.getElem?_map, hq]
      show some (kidI g qk.length) = _
      unfold kidI
      rw [if_pos HGB.out, bk.len])
    have hiw := iw_range g
    have hkl := bk.lim
    have t1 : IntKind.i64.wrap (1 + (pkn : Int)) = 1 + (pkn : Int) := IntWalk.i64_in _ (by omega)
    have t2 : IntKind.i64.wrap (1 + (pkn : Int) + iwI g) = 1 + (pkn : Int) + iwI g := IntWalk.i64_in _ (by omega)
    have HS := Aside0.mk (show u0.cell? ⟨N, 2, none⟩ = some (.slice (some ad) Kn Kc) ∧ u0.cell? (ad.add (j * 2)) = some (.slice pk pkn pkc) from ⟨(nd_cells H1.out.2.1).2.2, c0⟩)
    clear hq bk hp c0 c1 hiw hkl
    refine wp_region_M (fun j => decide (j < 12)) (fun w' => w'.cell? ⟨N, 2, none⟩ = some (.slice (some ad) Kn Kc) ∧ w'.cell? (ad.add (j * 2)) = some (.slice pk pkn pkc)) (by kernel_rfl) ?_
    rw [hu0]
    clear hu0
    refine wpAnyM_take (i := 0) (v := ?_) (by simp only [List.getElem?_toArray, List.getElem?_cons_succ, List.getElem?_cons_zero]; rfl) (by kernel_rfl) (by kernel_rfl) (by kernel_rfl) (by kernel_rfl) (by exact fun _ _ _ h => h) (Or.inl ⟨by rfl, ?_⟩) HS.out ?_
    rotate_left
    · (intro w' hSw; (try dsimp only at hSw); go_simp; try with_reducible rfl)
    try simp only [Act.put, List.setIfInBounds_toArray, List.set_cons_zero, List.set_cons_succ]
    refine wpAnyM_take (i := 1) (v := ?_) (by simp only [List.getElem?_toArray, List.getElem?_cons_succ, List.getElem?_cons_zero]; rfl) (by kernel_rfl) (by kernel_rfl) (by kernel_rfl) (by kernel_rfl) (by exact fun _ _ _ h => h) (Or.inl ⟨by rfl, ?_⟩) HS.out ?_
    rotate_left
    · (intro w' hSw; (try dsimp only at hSw); go_simp; try with_reducible rfl)
    try simp only [Act.put, List.setIfInBounds_toArray, List.set_cons_zero, List.set_cons_succ]
    refine wpAnyM_take (i := 2) (v := ?_) (by simp only [List.getElem?_toArray, List.getElem?_cons_succ, List.getElem?_cons_zero]; rfl) (by kernel_rfl) (by kernel_rfl) (by kernel_rfl) (by kernel_rfl) (by exact fun _ _ _ h => h) (Or.inl ⟨by rfl, ?_⟩) HS.out ?_
    rotate_left
    · (intro w' hSw; (try dsimp only at hSw); go_simp; try with_reducible rfl)
    try simp only [Act.put, List.setIfInBounds_toArray, List.set_cons_zero, List.set_cons_succ]
    refine wpAnyM_take (i := 3) (v := ?_) (by simp only [List.getElem?_toArray, List.getElem?_cons_succ, List.getElem?_cons_zero]; rfl) (by kernel_rfl) (by kernel_rfl) (by kernel_rfl) (by kernel_rfl) (by exact fun _ _ _ h => h) (Or.inl ⟨by rfl, ?_⟩) HS.out ?_
    rotate_left
    · (intro w' hSw; (try dsimp only at hSw); go_simp; try with_reducible rfl)
    try simp only [Act.put, List.setIfInBounds_toArray, List.set_cons_zero, List.set_cons_succ]
    refine wpAnyM_take (i := 4) (v := ?_) (by simp only [List.getElem?_toArray, List.getElem?_cons_succ, List.getElem?_cons_zero]; rfl) (by kernel_rfl) (by kernel_rfl) (by kernel_rfl) (by kernel_rfl) (by exact fun _ _ _ h => h) (Or.inl ⟨by rfl, ?_⟩) HS.out ?_
    rotate_left
    · (intro w' hSw; (try dsimp only at hSw); go_simp; try with_reducible rfl)
    try simp only [Act.put, List.setIfInBounds_toArray, List.set_cons_zero, List.set_cons_succ]
    refine wpAnyM_take (i := 5) (v := ?_) (by simp only [List.getElem?_toArray, List.getElem?_cons_succ, List.getElem?_cons_zero]; rfl) (by kernel_rfl) (by kernel_rfl) (by kernel_rfl) (by kernel_rfl) (by exact fun _ _ _ h => h) (Or.inl ⟨by rfl, ?_⟩) HS.out ?_
    rotate_left
    · (intro w' hSw; (try dsimp only at hSw); go_simp; try with_reducible rfl)
    try simp only [Act.put, List.setIfInBounds_toArray, List.set_cons_zero, List.set_cons_succ]
    refine wpAnyM_take (i := 6) (v := ?_) (by simp only [List.getElem?_toArray, List.getElem?_cons_succ, List.getElem?_cons_zero]; rfl) (by kernel_rfl) (by kernel_rfl) (by kernel_rfl) (by kernel_rfl) (by exact fun _ _ _ h => h) (Or.inl ⟨by rfl, ?_⟩) HS.out ?_
    rotate_left
    · (intro w' hSw; (try dsimp only at hSw); go_simp; try with_reducible rfl)
    try simp only [Act.put, List.setIfInBounds_toArray, List.set_cons_zero, List.set_cons_succ]
    refine wpAnyM_take (i := 7) (v := ?_) (by simp only [List.getElem?_toArray, List.getElem?_cons_succ, List.getElem?_cons_zero]; rfl) (by kernel_rfl) (by kernel_rfl) (by kernel_rfl) (by kernel_rfl) (by exact fun _ _ _ h => h) (Or.inl ⟨by rfl, ?_⟩) HS.out ?_
    rotate_left
    · (intro w' hSw; (try dsimp only at hSw); go_simp; try with_reducible rfl)
    try simp only [Act.put, List.setIfInBounds_toArray, List.set_cons_zero, List.set_cons_succ]
    refine wpAnyM_take (i := 8) (v := ?_) (by simp only [List.getElem?_toArray, List.getElem?_cons_succ, List.getElem?_cons_zero]; rfl) (by kernel_rfl) (by kernel_rfl) (by kernel_rfl) (by kernel_rfl) (by exact fun _ _ _ h => h) (Or.inl ⟨by rfl, ?_⟩) HS.out ?_
    rotate_left
    · (intro w' hSw; (try dsimp only at hSw); go_simp; try with_reducible rfl)
    try simp only [Act.put, List.setIfInBounds_toArray, List.set_cons_zero, List.set_cons_succ]
    refine wpAnyM_one (i := 9) (by kernel_rfl) (by simp only [List.getElem?_toArray, List.getElem?_cons_succ, List.getElem?_cons_zero]; rfl) ?_
    go_wp2_with (go_at_call 56; refine (rIdWidth_any g u0).mono ?_; rintro e u1 ⟨rfl, rfl⟩)
    refine ⟨HS.out, ?_⟩
    try simp only [Act.put, List.setIfInBounds_toArray, List.set_cons_zero, List.set_cons_succ]
    refine wpAnyM_take (i := 10) (v := ?_) (by simp only [List.getElem?_toArray, List.getElem?_cons_succ, List.getElem?_cons_zero]; rfl) (by kernel_rfl) (by kernel_rfl) (by kernel_rfl) (by kernel_rfl) (by exact fun _ _ _ h => h) (Or.inl ⟨by rfl, ?_⟩) HS.out ?_
    rotate_left
    · (intro w' hSw; (try dsimp only at hSw); go_simp; try with_reducible rfl)
    try simp only [Act.put, List.setIfInBounds_toArray, List.set_cons_zero, List.set_cons_succ]
    refine wpAnyM_take (i := 11) (v := ?_) (by simp only [List.getElem?_toArray, List.getElem?_cons_succ, List.getElem?_cons_zero]; rfl) (by kernel_rfl) (by kernel_rfl) (by kernel_rfl) (by kernel_rfl) (by exact fun _ _ _ h => h) (Or.inl ⟨by rfl, ?_⟩) HS.out ?_
    rotate_left
    · (intro w' hSw; (try dsimp only at hSw); go_simp; try with_reducible rfl)
    try simp only [Act.put, List.setIfInBounds_toArray, List.set_cons_zero, List.set_cons_succ]
    refine wpAnyM_done (by kernel_rfl) ?_ _
    go_wp2_with fail
    go_ret
    rw [HV.out]
    exact ⟨rfl, H1.out.2.2⟩
def manyN (v : NV) : Nat := if v.leaf = true then v.items.length else v.kids.length
theorem rooms_len (g : Int) (v : NV) : (roomsL g v).length = manyN v := by
  unfold roomsL manyN
  split <;> simp
set_option maxHeartbeats 3000000 in
set_option maxRecDepth 100000 in
theorem r6many_any (h : NH) (is : List IH) (ks : List KH) (v : NV) (w : World) (hn : Nd w h is ks v) :
    Calls Tryz.prog 91 #[.agg (nhv h)] w fun e w' => e = .returned (.int .i64 (manyN v : Int)) ∧ Below w.heap.size w w' := by
  obtain ⟨lf, ⟨IA, In, Ic⟩, ⟨KA, Kn, Kc⟩⟩ := h
  have hbi : In ≤ 1000 := hn.bi
  have hbk : Kn ≤ 1000 := hn.bk
  have HLF := Aside0.mk (show lf = v.leaf from hn.leaf)
  have HLL := Aside0.mk (show v.items.length = In ∧ v.kids.length = Kn from ⟨by rw [← hn.its.len]; exact hn.li, by rw [← hn.kds.len]; exact hn.lk⟩)
  have hB0 := (Below.refl _ w).alloc (Nat.le_refl _) (.cells #[.bool lf, .slice IA In Ic, .slice KA Kn Kc] 35)
  have H0 := Aside0.mk (And.intro (heap_alloc_new w (.cells #[.bool lf, .slice IA In Ic, .slice KA Kn Kc] 35)) (And.intro (hn.below hB0) hB0))
  clear hn
  show Calls Tryz.prog 91 #[.agg #[.bool lf, .slice IA In Ic, .slice KA Kn Kc]] w _
  go_enter Tryz.func91, Tryz.ntmps91
  go_upto_region 1 with fail
  obtain ⟨w0, hw0⟩ : ∃ X, w.alloc (.cells #[.bool lf, .slice IA In Ic, .slice KA Kn Kc] 35) = X := ⟨_, rfl⟩
  obtain ⟨N, hN⟩ : ∃ X, w.heap.size = X := ⟨_, rfl⟩
  rw [hw0, hN] at H0
  rw [hw0, hN]
  have H0B := Aside0.mk (show Below w.heap.size w w0 by rw [hN]; exact H0.out.2.2)
  clear hB0 hw0 hN
  obtain ⟨y0, y1, y2⟩ := nd_cells H0.out.1
  cases lf with
  | true =>
    go_wp2_with fail
    go_ret
    refine ⟨?_, H0B.out⟩
    unfold manyN
    rw [← HLF.out, if_pos rfl, HLL.out.1]
    rfl
  | false =>
    go_wp2_with fail
    go_ret
    refine ⟨?_, H0B.out⟩
    unfold manyN
    rw [← HLF.out, if_neg (by decide), HLL.out.2]
    rfl
set_option maxHeartbeats 3000000 in
set_option maxRecDepth 100000 in
theorem r6roomS_any (h : NH) (is : List IH) (ks : List KH) (v : NV) (g : Int) (w : World) (hn : Nd w h is ks v) (hg : 1 ≤ g ∧ g ≤ 3) :
    Calls Tryz.prog 90 #[.int .i64 g, .agg (nhv h), .int .i64 (manyN v : Int)] w fun e w' => e = .returned (.int .i64 (roomS g v)) ∧ Below w.heap.size w w' := by
  have hin := Aside0.mk (hn.rooms_in g)
  have HG := Aside0.mk hg
  obtain ⟨m, hm⟩ : ∃ x, manyN v = x := ⟨_, rfl⟩
  rw [hm]
  have HM := Aside0.mk hm
  have hmb : m ≤ 1000 := by
    have h1 := hn.bi
    have h2 := hn.bk
    rw [← hn.li, hn.its.len] at h1
    rw [← hn.lk, hn.kds.len] at h2
    rw [← hm]
    unfold manyN
    split <;> omega
  clear hg hm
  obtain ⟨lf, ⟨IA, In, Ic⟩, ⟨KA, Kn, Kc⟩⟩ := h
  have hbi : In ≤ 1000 := hn.bi
  have hbk : Kn ≤ 1000 := hn.bk
  have HLF := Aside0.mk (show lf = v.leaf from hn.leaf)
  have HLL := Aside0.mk (show v.items.length = In ∧ v.kids.length = Kn from ⟨by rw [← hn.its.len]; exact hn.li, by rw [← hn.kds.len]; exact hn.lk⟩)
  have hB0 := (Below.refl _ w).alloc (Nat.le_refl _) (.cells #[.bool lf, .slice IA In Ic, .slice KA Kn Kc] 35)
  have H0 := Aside0.mk (And.intro (heap_alloc_new w (.cells #[.bool lf, .slice IA In Ic, .slice KA Kn Kc] 35)) (And.intro (hn.below hB0) hB0))
  clear hn
  show Calls Tryz.prog 90 #[.int .i64 g, .agg #[.bool lf, .slice IA In Ic, .slice KA Kn Kc], .int .i64 (m : Int)] w _
  go_enter Tryz.func90, Tryz.ntmps90
  go_upto_region 1 with fail
  obtain ⟨w0, hw0⟩ : ∃ X, w.alloc (.cells #[.bool lf, .slice IA In Ic, .slice KA Kn Kc] 35) = X := ⟨_, rfl⟩
  obtain ⟨N, hN⟩ : ∃ X, w.heap.size = X := ⟨_, rfl⟩
  rw [hw0, hN] at H0
  rw [hw0, hN]
  have H0B := Aside0.mk (show Below w.heap.size w w0 by rw [hN]; exact H0.out.2.2)
  clear hB0 hw0 hN
  obtain ⟨y0, y1, y2⟩ := nd_cells H0.out.1
  go_wp2_with fail
  clear y0 y1 y2
  go_loopg [7, 8] m (fun gk v7 v8 wr => ∃ (j : Nat), Aside (gk + j = m) ∧ v7 = .int .i64 ((roomsL g v).take j).sum ∧ v8 = .int .i64 (j : Int) ∧ Aside0 (Below w0.heap.size w0 wr))
  case atStart => exact ⟨0, rfl, rfl, rfl, ⟨Below.refl _ _⟩⟩
  case round =>
    obtain ⟨j, hk, rfl, rfl, hI⟩ := hrel
    have hjm : j ≤ m := by have := hk.out; omega
    have hrow := Aside0.mk ((hI.out.block _ (Array.getElem?_eq_some_iff.1 H0.out.1).1).trans H0.out.1)
    obtain ⟨y0, y1, y2⟩ := nd_cells hrow.out
    rcases Nat.lt_or_ge j m with hlt | hge
    · have d1 : decide ((j : Int) < (m : Int)) = true := decide_eq_true (by omega)
      have hjn : (j : Int) < (m : Int) := by omega
      have hjl : j < (roomsL g v).length := by rw [rooms_len, HM.out]; exact hlt
      have hz : (roomsL g v)[j]? = some (roomsL g v)[j] := List.getElem?_eq_getElem hjl
      obtain ⟨z, hzz⟩ : ∃ x, (roomsL g v)[j] = x := ⟨_, rfl⟩
      rw [hzz] at hz
      obtain ⟨s, hs⟩ : ∃ s, ((roomsL g v).take j).sum = s := ⟨_, rfl⟩
      have HZ := Aside0.mk (And.intro hz hs)
      have hb1 := sum_in ((roomsL g v).take j) (fun y hy => hin.out y (List.mem_of_mem_take hy))
      have hb2 := hin.out z (List.mem_of_getElem? hz)
      have hb3 : ((roomsL g v).take j).length ≤ 1000 := by rw [List.length_take]; omega
      rw [hs] at hb1 ⊢
      have hw : IntKind.i64.wrap (s + z) = s + z := IntWalk.i64_in _ (by omega)
      have cR := r6room_any ⟨lf, (IA, In, Ic), (KA, Kn, Kc)⟩ is ks v g j wr (H0.out.2.1.below hI.out) HG.out hjl
      rw [getD_of hz] at cR
      simp only [nhv] at cR
      clear hz hs hb1 hb2 hb3 hzz hjl
      go_wp2_with (go_at_call 98; refine cR.mono ?_; rintro e w1 ⟨rfl, hB⟩; (have H1 := Aside0.mk (below_then hI.out hI.out.size hB)); clear hB)
      go_roundg (m - (j + 1))
      case measure => have := hk.out; omega
      case rel => exact ⟨j + 1, (by show m - (j + 1) + (j + 1) = m; omega), by rw [List.take_add_one, HZ.out.1, Option.toList_some, List.sum_append, List.sum_singleton, HZ.out.2], by go_num, ⟨H1.out⟩⟩
    · obtain rfl : m = j := by omega
      have d1 : decide ((m : Int) < (m : Int)) = false := by simp
      have HSS := Aside0.mk (show ((roomsL g v).take m).sum = roomS g v by rw [List.take_of_length_le (by rw [rooms_len, HM.out]; exact Nat.le_refl _)]; rfl)
      go_wp2_with fail
      go_ret
      rw [HSS.out]
      exact ⟨rfl, below_then H0B.out H0B.out.size hI.out⟩
set_option maxHeartbeats 3000000 in
set_option maxRecDepth 100000 in
theorem r6fits_any (h : NH) (is : List IH) (ks : List KH) (v : NV) (g : Int) (w : World) (hn : Nd w h is ks v) (hg : 1 ≤ g ∧ g ≤ 3) :
    Calls Tryz.prog 78 #[.int .i64 g, .agg (nhv h)] w fun e w' => e = .returned (.bool (fitsN g v)) ∧ Below w.heap.size w w' := by
  have HG := Aside0.mk hg
  clear hg
  obtain ⟨lf, ⟨IA, In, Ic⟩, ⟨KA, Kn, Kc⟩⟩ := h
  have hbi : In ≤ 1000 := hn.bi
  have hbk : Kn ≤ 1000 := hn.bk
  have HLF := Aside0.mk (show lf = v.leaf from hn.leaf)
  have HLL := Aside0.mk (show v.items.length = In ∧ v.kids.length = Kn from ⟨by rw [← hn.its.len]; exact hn.li, by rw [← hn.kds.len]; exact hn.lk⟩)
  have hB0 := (Below.refl _ w).alloc (Nat.le_refl _) (.cells #[.bool lf, .slice IA In Ic, .slice KA Kn Kc] 35)
  have H0 := Aside0.mk (And.intro (heap_alloc_new w (.cells #[.bool lf, .slice IA In Ic, .slice KA Kn Kc] 35)) (And.intro (hn.below hB0) hB0))
  clear hn
  show Calls Tryz.prog 78 #[.int .i64 g, .agg #[.bool lf, .slice IA In Ic, .slice KA Kn Kc]] w _
  go_enter Tryz.func78, Tryz.ntmps78
  go_upto_region 1 with fail
  obtain ⟨w0, hw0⟩ : ∃ X, w.alloc (.cells #[.bool lf, .slice IA In Ic, .slice KA Kn Kc] 35) = X := ⟨_, rfl⟩
  obtain ⟨N, hN⟩ : ∃ X, w.heap.size = X := ⟨_, rfl⟩
  rw [hw0, hN] at H0
  rw [hw0, hN]
  have H0B := Aside0.mk (show Below w.heap.size w w0 by rw [hN]; exact H0.out.2.2)
  clear hB0 hw0 hN
  obtain ⟨y0, y1, y2⟩ := nd_cells H0.out.1
  have cM : ∀ X, Nd X ⟨lf, (IA, In, Ic), (KA, Kn, Kc)⟩ is ks v → _ := fun X hX => r6many_any ⟨lf, (IA, In, Ic), (KA, Kn, Kc)⟩ is ks v X hX
  have cS : ∀ X, Nd X ⟨lf, (IA, In, Ic), (KA, Kn, Kc)⟩ is ks v → _ := fun X hX => r6roomS_any ⟨lf, (IA, In, Ic), (KA, Kn, Kc)⟩ is ks v g X hX HG.out
  simp only [nhv] at cM cS
  have hBd := below_drew (Below.refl w0.heap.size w0)
  have H1 := Aside0.mk (And.intro (H0.out.2.1.below hBd) (And.intro ((hBd.block _ (Array.getElem?_eq_some_iff.1 H0.out.1).1).trans H0.out.1) (below_then H0B.out H0B.out.size hBd)))
  obtain ⟨u0, hu0⟩ : ∃ X, w0.drew = X := ⟨_, rfl⟩
  rw [hu0] at H1
  clear hBd y0 y1 y2
  refine wp_region_M (fun j => decide (j < 9)) (fun w' => w'.cell? ⟨N, 0, none⟩ = some (.bool lf) ∧ w'.cell? ⟨N, 1, none⟩ = some (.slice IA In Ic) ∧ w'.cell? ⟨N, 2, none⟩ = some (.slice KA Kn Kc)) (by kernel_rfl) ?_
  rw [hu0]
  clear hu0
  refine wpAnyM_take (i := 0) (v := ?_) (by simp only [List.getElem?_toArray, List.getElem?_cons_succ, List.getElem?_cons_zero]; rfl) (by kernel_rfl) (by kernel_rfl) (by kernel_rfl) (by kernel_rfl) (by exact fun _ _ _ h => h) (Or.inl ⟨by rfl, ?_⟩) (nd_cells H1.out.2.1) ?_
  rotate_left
  · (intro w' hSw; (try dsimp only at hSw); go_simp; try with_reducible rfl)
  try simp only [Act.put, List.setIfInBounds_toArray, List.set_cons_zero, List.set_cons_succ]
  refine wpAnyM_take (i := 1) (v := ?_) (by simp only [List.getElem?_toArray, List.getElem?_cons_succ, List.getElem?_cons_zero]; rfl) (by kernel_rfl) (by kernel_rfl) (by kernel_rfl) (by kernel_rfl) (by exact fun _ _ _ h => h) (Or.inl ⟨by rfl, ?_⟩) (nd_cells H1.out.2.1) ?_
  rotate_left
  · (intro w' hSw; (try dsimp only at hSw); go_simp; try with_reducible rfl)
  try simp only [Act.put, List.setIfInBounds_toArray, List.set_cons_zero, List.set_cons_succ]
  refine wpAnyM_take (i := 2) (v := ?_) (by simp only [List.getElem?_toArray, List.getElem?_cons_succ, List.getElem?_cons_zero]; rfl) (by kernel_rfl) (by kernel_rfl) (by kernel_rfl) (by kernel_rfl) (by exact fun _ _ _ h => h) (Or.inl ⟨by rfl, ?_⟩) (nd_cells H1.out.2.1) ?_
  rotate_left
  · (intro w' hSw; (try dsimp only at hSw); go_simp; try with_reducible rfl)
  try simp only [Act.put, List.setIfInBounds_toArray, List.set_cons_zero, List.set_cons_succ]
  refine wpAnyM_take (i := 5) (v := ?_) (by simp only [List.getElem?_toArray, List.getElem?_cons_succ, List.getElem?_cons_zero]; rfl) (by kernel_rfl) (by kernel_rfl) (by kernel_rfl) (by kernel_rfl) (by exact fun _ _ _ h => h) (Or.inl ⟨by rfl, ?_⟩) (nd_cells H1.out.2.1) ?_
  rotate_left
  · (intro w' hSw; (try dsimp only at hSw); go_simp; try with_reducible rfl)
  try simp only [Act.put, List.setIfInBounds_toArray, List.set_cons_zero, List.set_cons_succ]
  refine wpAnyM_one (i := 3) (by kernel_rfl) (by simp only [List.getElem?_toArray, List.getElem?_cons_succ, List.getElem?_cons_zero]; rfl) ?_
  go_wp2_with (go_at_call 91; refine (cM u0 H1.out.1).mono ?_; rintro e u1 ⟨rfl, hB⟩; (have H2 := Aside0.mk (And.intro (H1.out.1.below hB) (And.intro ((hB.block _ (Array.getElem?_eq_some_iff.1 H1.out.2.1).1).trans H1.out.2.1) (below_then H1.out.2.2 H1.out.2.2.size hB)))); clear hB)
  refine ⟨nd_cells H2.out.2.1, ?_⟩
  try simp only [Act.put, List.setIfInBounds_toArray, List.set_cons_zero, List.set_cons_succ]
  refine wpAnyM_one (i := 4) (by kernel_rfl) (by simp only [List.getElem?_toArray, List.getElem?_cons_succ, List.getElem?_cons_zero]; rfl) ?_
  go_wp2_with (go_at_call 90; refine (cS u1 H2.out.1).mono ?_; rintro e u2 ⟨rfl, hB⟩; (have H3 := Aside0.mk (And.intro ((hB.block _ (Array.getElem?_eq_some_iff.1 H2.out.2.1).1).trans H2.out.2.1) (below_then H2.out.2.2 H2.out.2.2.size hB))); clear hB)
  refine ⟨nd_cells H3.out.1, ?_⟩
  try simp only [Act.put, List.setIfInBounds_toArray, List.set_cons_zero, List.set_cons_succ]
  refine wpAnyM_one (i := 6) (by kernel_rfl) (by simp only [List.getElem?_toArray, List.getElem?_cons_succ, List.getElem?_cons_zero]; rfl) ?_
  go_wp2_with (go_at_call 26; refine (rCap_any g u2).mono ?_; rintro e u3 ⟨rfl, rfl⟩)
  refine ⟨nd_cells H3.out.1, ?_⟩
  try simp only [Act.put, List.setIfInBounds_toArray, List.set_cons_zero, List.set_cons_succ]
  refine wpAnyM_take (i := 7) (v := ?_) (by simp only [List.getElem?_toArray, List.getElem?_cons_succ, List.getElem?_cons_zero]; rfl) (by kernel_rfl) (by kernel_rfl) (by kernel_rfl) (by kernel_rfl) (by exact fun _ _ _ h => h) (Or.inl ⟨by rfl, ?_⟩) (nd_cells H3.out.1) ?_
  rotate_left
  · (intro w' hSw; (try dsimp only at hSw); go_simp; try with_reducible rfl)
  try simp only [Act.put, List.setIfInBounds_toArray, List.set_cons_zero, List.set_cons_succ]
  refine wpAnyM_take (i := 8) (v := ?_) (by simp only [List.getElem?_toArray, List.getElem?_cons_succ, List.getElem?_cons_zero]; rfl) (by kernel_rfl) (by kernel_rfl) (by kernel_rfl) (by kernel_rfl) (by exact fun _ _ _ h => h) (Or.inl ⟨by rfl, ?_⟩) (nd_cells H3.out.1) ?_
  rotate_left
  · (intro w' hSw; (try dsimp only at hSw); go_simp; try with_reducible rfl)
  try simp only [Act.put, List.setIfInBounds_toArray, List.set_cons_zero, List.set_cons_succ]
  refine wpAnyM_done (by kernel_rfl) ?_ _
  go_wp2_with fail
  go_ret
  exact ⟨rfl, H3.out.2⟩
end Go.Proofs.YtbjfklgmbeaaoaaGreat
