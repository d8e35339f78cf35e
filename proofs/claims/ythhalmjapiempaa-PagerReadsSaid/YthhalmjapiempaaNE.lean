/- The walk of the law PagerFull. -/
import Derived.Test.YthhalmjapiempaaND
import Derived.Test.YthhalmjapiempaaR7
set_option linter.unusedVariables false
set_option linter.unusedSimpArgs false
namespace Go.Proofs.Ythhalmjapiempaa
open Go.RowKit

theorem Hs.since {w0 w2 X : World} {hs : List (Int × Option Addr × Nat × Nat)} {l : List (Int × List UInt8)} (h : Hs w0 [] X hs l) (hz : w0.heap.size ≤ w2.heap.size) : Hs w2 [] X hs l :=
  ⟨h.len, fun j p hj => by
    obtain ⟨q, a, b, c, d, e⟩ := h.each j p hj
    exact ⟨q, a, b, c, fun h0 x hx => .inl (by rcases d h0 x hx with z | ⟨o, z⟩; omega; cases z), e⟩⟩
theorem newDV_n (k : Int) : nD (newDV k) = 0 := by simp [nD, newDV]
set_option maxHeartbeats 16000000 in
set_option maxRecDepth 100000 in
theorem pagerFull_any (A : Option Addr) (n c : Nat) (hs : List (Int × Option Addr × Nat × Nat)) (l : List (Int × List UInt8)) (ge ph tg tx rt pg li : Int) (A' : Option Addr) (cn c' : Nat) (cu : List UInt8) (limit : Int) (W : World) (hr : Wrs W A n c hs l) (hm : Bs W A' cn c' cu) (hk : -9223372036854775808 ≤ limit ∧ limit ≤ 9223372036854775807) :
    Calls Try.prog 6 #[.slice A n c, .agg #[.int .i64 ge, .int .i64 ph, .int .i64 tg, .int .i64 tx, .int .i64 rt, .int .i64 pg, .int .i64 li, .slice A' cn c'], .int .i64 limit] W fun e w' => e = .returned (.bool true) ∧ Below W.heap.size W w' := by
  obtain rfl := hm.len
  obtain ⟨bx, hbx⟩ : ∃ b : Obj, Obj.cells #[.int .i64 ge, .int .i64 ph, .int .i64 tg, .int .i64 tx, .int .i64 rt, .int .i64 pg, .int .i64 li, .slice A' cu.length c'] 24 = b := ⟨_, rfl⟩
  have hbel0 : Below W.heap.size W (W.alloc bx) := (Below.refl _ W).alloc (Nat.le_refl _) bx
  have hro0 := heap_alloc_new W bx
  have HR := Aside0.mk hr
  have HM := Aside0.mk hm
  have HBW := Aside0.mk hbel0
  have hcl := hm.lim
  have hnl := hr.rl.lim
  clear hr hm
  go_enter Try.func6, Try.ntmps6
  go_upto_region 1 with fail
  obtain ⟨W0, hW0⟩ : ∃ X, W.alloc bx = X := ⟨_, rfl⟩
  obtain ⟨N0, hN0⟩ : ∃ X, W.heap.size = X := ⟨_, rfl⟩
  rw [hW0, hN0] at hro0
  rw [hW0] at HBW hbel0
  rw [hW0, hN0]
  have HRO := Aside0.mk hro0
  have HBX := Aside0.mk hbx
  have H0 := Aside0.mk (And.intro (HR.out.rl.below hbel0) (And.intro (HR.out.hs.below hbel0) (HM.out.below hbel0)))
  rw [← hbx] at hro0
  obtain ⟨y0, y1, y2, y3, y4, y5, y6, y7⟩ := row8_cells hro0
  clear hW0 hN0 hbx hbel0 hro0
  cases hF : fewB l ⟨ge, ph, tg, tx, rt, pg, li, cu⟩ with
  | false =>
    have HF := Aside0.mk hF
    clear hF
    go_wp2_with (first
      | (go_at_call 11; refine (alive12_any w1).mono ?_; rintro e2 w2 ⟨rfl, hB⟩; (have H2 := Aside0.mk (below_then H1.out H1.out.size hB)); clear hB)
      | (go_at_call 9; refine (few12_any A n c hs l ⟨ge, ph, tg, tx, rt, pg, li, cu⟩ A' c' W0 H0.out.1 H0.out.2.1.hl hcl).mono ?_; rintro e1 w1 ⟨rfl, hB⟩; rw [HF.out]; (have H1 := Aside0.mk (below_then HBW.out HBW.out.size hB)); clear hB)
      | fail)
    go_ret
    exact ⟨rfl, H2.out⟩
  | true =>
    obtain ⟨f1, f2, f3, f4⟩ := of_decide_eq_true hF
    have f1 : l.length ≤ 12 := f1
    have f3 : pg ≤ 40 := f3
    have hn12 : n ≤ 12 := by rw [← HR.out.rl.len, HR.out.hs.len]; exact f1
    have HF := Aside0.mk (And.intro hF f2)
    clear hF f2 f4
    have FEW : ∀ (e2 : Ending) (w2 : World), True := fun _ _ => trivial
    clear FEW
    cases hP : prgB l ⟨ge, ph, tg, tx, rt, pg, li, cu⟩ with
    | false =>
      have HP := Aside0.mk hP
      clear hP
      go_wp2_with (first
        | (go_at_call 11; refine (alive12_any w2).mono ?_; rintro e3 w3 ⟨rfl, hB⟩; (have H3 := Aside0.mk (below_then H2.out H2.out.size hB)); clear hB)
        | (go_at_call 10; refine (rpright_any A n c hs l ⟨ge, ph, tg, tx, rt, pg, li, cu⟩ A' c' w1 (H1.out.2.1.rc (by omega)) HR.out.rl.len H1.out.2.2.1.hl hcl).mono ?_; rintro e2 w2 ⟨rfl, hB⟩; rw [HP.out]; (have H2 := Aside0.mk (below_then H1.out.1 H1.out.1.size hB)); clear hB)
        | (go_at_call 9; refine (few12_any A n c hs l ⟨ge, ph, tg, tx, rt, pg, li, cu⟩ A' c' W0 H0.out.1 H0.out.2.1.hl hcl).mono ?_; rintro e1 w1 ⟨rfl, hB⟩; rw [HF.out.1]; (have H1 := Aside0.mk (And.intro (below_then HBW.out HBW.out.size hB) (And.intro (H0.out.1.below hB) (And.intro (H0.out.2.1.below hB) (H0.out.2.2.below hB))))); (have hro := (hB.block _ (Array.getElem?_eq_some_iff.1 HRO.out).1).trans HRO.out); rw [← HBX.out] at hro; clear y0 y1 y2 y3 y4 y5 y6 y7; (obtain ⟨y0, y1, y2, y3, y4, y5, y6, y7⟩ := row8_cells hro); clear hB hro)
        | fail)
      go_ret
      exact ⟨rfl, H3.out⟩
    | true =>
      have hpb := prgB_pg hP
      have hpb : 3 ≤ pg := hpb.1
      have HP := Aside0.mk hP
      clear hP
      have iw1 : IntKind.i64.wrap (4 * pg) = 4 * pg := IntWalk.i64_in _ (by omega)
      have iw2 : IntKind.i64.wrap (4 * pg + 8) = 4 * pg + 8 := IntWalk.i64_in _ (by omega)
      by_cases q1 : limit < 0
      · have g1 : decide (limit < 0) = true := decide_eq_true q1
        clear q1
        go_wp2_with (first
          | (go_at_call 11; refine (alive12_any w2).mono ?_; rintro e3 w3 ⟨rfl, hB⟩; (have H3 := Aside0.mk (below_then H2.out.1 H2.out.1.size hB)); clear hB)
          | (go_at_call 10; refine (rpright_any A n c hs l ⟨ge, ph, tg, tx, rt, pg, li, cu⟩ A' c' w1 (H1.out.2.1.rc (by omega)) HR.out.rl.len H1.out.2.2.1.hl hcl).mono ?_; rintro e2 w2 ⟨rfl, hB⟩; rw [HP.out]; (have H2 := Aside0.mk (And.intro (below_then H1.out.1 H1.out.1.size hB) (And.intro (H1.out.2.1.below hB) (And.intro (H1.out.2.2.1.below hB) (And.intro (H1.out.2.2.2.1.below hB) ((hB.block _ (Array.getElem?_eq_some_iff.1 H1.out.2.2.2.2).1).trans H1.out.2.2.2.2)))))); (have hro := H2.out.2.2.2.2); rw [← HBX.out] at hro; clear y0 y1 y2 y3 y4 y5 y6 y7; (obtain ⟨y0, y1, y2, y3, y4, y5, y6, y7⟩ := row8_cells hro); clear hB hro)
          | (go_at_call 9; refine (few12_any A n c hs l ⟨ge, ph, tg, tx, rt, pg, li, cu⟩ A' c' W0 H0.out.1 H0.out.2.1.hl hcl).mono ?_; rintro e1 w1 ⟨rfl, hB⟩; rw [HF.out.1]; (have H1 := Aside0.mk (And.intro (below_then HBW.out HBW.out.size hB) (And.intro (H0.out.1.below hB) (And.intro (H0.out.2.1.below hB) (And.intro (H0.out.2.2.below hB) ((hB.block _ (Array.getElem?_eq_some_iff.1 HRO.out).1).trans HRO.out)))))); (have hro := H1.out.2.2.2.2); rw [← HBX.out] at hro; clear y0 y1 y2 y3 y4 y5 y6 y7; (obtain ⟨y0, y1, y2, y3, y4, y5, y6, y7⟩ := row8_cells hro); clear hB hro)
          | fail)
        go_ret
        exact ⟨rfl, H3.out⟩
      have g1 : decide (limit < 0) = false := decide_eq_false q1
      by_cases q2 : 4 * pg + 8 < limit
      · have g2 : decide (4 * pg + 8 < limit) = true := decide_eq_true q2
        clear q1 q2
        go_wp2_with (first
          | (go_at_call 11; refine (alive12_any w2).mono ?_; rintro e3 w3 ⟨rfl, hB⟩; (have H3 := Aside0.mk (below_then H2.out.1 H2.out.1.size hB)); clear hB)
          | (go_at_call 10; refine (rpright_any A n c hs l ⟨ge, ph, tg, tx, rt, pg, li, cu⟩ A' c' w1 (H1.out.2.1.rc (by omega)) HR.out.rl.len H1.out.2.2.1.hl hcl).mono ?_; rintro e2 w2 ⟨rfl, hB⟩; rw [HP.out]; (have H2 := Aside0.mk (And.intro (below_then H1.out.1 H1.out.1.size hB) (And.intro (H1.out.2.1.below hB) (And.intro (H1.out.2.2.1.below hB) (And.intro (H1.out.2.2.2.1.below hB) ((hB.block _ (Array.getElem?_eq_some_iff.1 H1.out.2.2.2.2).1).trans H1.out.2.2.2.2)))))); (have hro := H2.out.2.2.2.2); rw [← HBX.out] at hro; clear y0 y1 y2 y3 y4 y5 y6 y7; (obtain ⟨y0, y1, y2, y3, y4, y5, y6, y7⟩ := row8_cells hro); clear hB hro)
          | (go_at_call 9; refine (few12_any A n c hs l ⟨ge, ph, tg, tx, rt, pg, li, cu⟩ A' c' W0 H0.out.1 H0.out.2.1.hl hcl).mono ?_; rintro e1 w1 ⟨rfl, hB⟩; rw [HF.out.1]; (have H1 := Aside0.mk (And.intro (below_then HBW.out HBW.out.size hB) (And.intro (H0.out.1.below hB) (And.intro (H0.out.2.1.below hB) (And.intro (H0.out.2.2.below hB) ((hB.block _ (Array.getElem?_eq_some_iff.1 HRO.out).1).trans HRO.out)))))); (have hro := H1.out.2.2.2.2); rw [← HBX.out] at hro; clear y0 y1 y2 y3 y4 y5 y6 y7; (obtain ⟨y0, y1, y2, y3, y4, y5, y6, y7⟩ := row8_cells hro); clear hB hro)
          | fail)
        go_ret
        exact ⟨rfl, H3.out⟩
      have g2 : decide (4 * pg + 8 < limit) = false := decide_eq_false q2
      have HQ := Aside0.mk (show 0 ≤ limit ∧ limit ≤ 4 * pg + 8 by omega)
      clear q1 q2
      go_upto_region 3 with (first
        | (go_at_call 10; refine (rpright_any A n c hs l ⟨ge, ph, tg, tx, rt, pg, li, cu⟩ A' c' w1 (H1.out.2.1.rc (by omega)) HR.out.rl.len H1.out.2.2.1.hl hcl).mono ?_; rintro e2 w2 ⟨rfl, hB⟩; rw [HP.out]; (have H2 := Aside0.mk (And.intro (below_then H1.out.1 H1.out.1.size hB) (And.intro (H1.out.2.1.below hB) (And.intro (H1.out.2.2.1.below hB) (And.intro (H1.out.2.2.2.1.below hB) ((hB.block _ (Array.getElem?_eq_some_iff.1 H1.out.2.2.2.2).1).trans H1.out.2.2.2.2)))))); (have hro := H2.out.2.2.2.2); rw [← HBX.out] at hro; clear y0 y1 y2 y3 y4 y5 y6 y7; (obtain ⟨y0, y1, y2, y3, y4, y5, y6, y7⟩ := row8_cells hro); clear hB hro)
        | (go_at_call 9; refine (few12_any A n c hs l ⟨ge, ph, tg, tx, rt, pg, li, cu⟩ A' c' W0 H0.out.1 H0.out.2.1.hl hcl).mono ?_; rintro e1 w1 ⟨rfl, hB⟩; rw [HF.out.1]; (have H1 := Aside0.mk (And.intro (below_then HBW.out HBW.out.size hB) (And.intro (H0.out.1.below hB) (And.intro (H0.out.2.1.below hB) (And.intro (H0.out.2.2.below hB) ((hB.block _ (Array.getElem?_eq_some_iff.1 HRO.out).1).trans HRO.out)))))); (have hro := H1.out.2.2.2.2); rw [← HBX.out] at hro; clear y0 y1 y2 y3 y4 y5 y6 y7; (obtain ⟨y0, y1, y2, y3, y4, y5, y6, y7⟩ := row8_cells hro); clear hB hro)
        | fail)
      clear g1 g2 iw2
      have hBz : W.heap.size ≤ w2.heap.size := H2.out.1.size
      go_upto_region 7 with (first
        | (go_at_call 12; refine (new_h (w0 := w2) limit w2 (Below.refl _ _)).mono ?_; rintro e3 w3 ⟨g, rfl, hH, _⟩; (have H3 := Aside0.mk (show DH w2 g [] (newDV limit) w3 from hH)); clear hH)
        | (go_at_call 13; refine (pnew_h H3.out).mono ?_; rintro e4 w4 ⟨rfl, hH, _⟩; (obtain ⟨gp, hgp⟩ : ∃ x, w3.heap.size = x := ⟨_, rfl⟩); rw [hgp] at hH; rw [hgp]; (have H4 := Aside0.mk hH); clear hH hgp)
        | fail)
      have hd5 : Below w2.heap.size w2 w4.drew := below_drew H4.out.bel
      have h5 := And.intro (H4.out.step (below_drew (Below.refl _ _))) (And.intro (H2.out.2.1.below hd5) (And.intro ((H2.out.2.2.1.since hBz).below hd5) (And.intro (H2.out.2.2.2.1.below hd5) ((hd5.block _ (Array.getElem?_eq_some_iff.1 H2.out.2.2.2.2).1).trans H2.out.2.2.2.2))))
      clear hd5 y0 y1 y2 y3 y4 y5 y6 y7
      obtain ⟨w5, hw5⟩ : ∃ X, w4.drew = X := ⟨_, rfl⟩
      rw [hw5] at h5
      have H5 := Aside0.mk h5
      have hro := h5.2.2.2.2
      rw [← HBX.out] at hro
      have HS5 := Aside0.mk (row8_cells hro)
      clear h5 hro
      refine wp_region_M (fun j => decide (j < 4)) (fun w' => w'.cell? ⟨N0, 0, none⟩ = some (.int .i64 ge) ∧ w'.cell? ⟨N0, 1, none⟩ = some (.int .i64 ph) ∧ w'.cell? ⟨N0, 2, none⟩ = some (.int .i64 tg) ∧ w'.cell? ⟨N0, 3, none⟩ = some (.int .i64 tx) ∧ w'.cell? ⟨N0, 4, none⟩ = some (.int .i64 rt) ∧ w'.cell? ⟨N0, 5, none⟩ = some (.int .i64 pg) ∧ w'.cell? ⟨N0, 6, none⟩ = some (.int .i64 li) ∧ w'.cell? ⟨N0, 7, none⟩ = some (.slice A' cu.length c')) (by kernel_rfl) ?_
      rw [hw5]
      clear hw5
      refine wpAnyM_take (i := 0) (v := ?_) (by simp only [List.getElem?_toArray, List.getElem?_cons_succ, List.getElem?_cons_zero]; rfl) (by kernel_rfl) (by kernel_rfl) (by kernel_rfl) (by kernel_rfl) (by exact fun _ _ _ h => h) (Or.inl ⟨by rfl, ?_⟩) HS5.out ?_
      rotate_left
      · (intro w' hSw; (try dsimp only at hSw); go_simp; try with_reducible rfl)
      try simp only [Act.put, List.setIfInBounds_toArray, List.set_cons_zero, List.set_cons_succ]
      refine wpAnyM_take (i := 1) (v := ?_) (by simp only [List.getElem?_toArray, List.getElem?_cons_succ, List.getElem?_cons_zero]; rfl) (by kernel_rfl) (by kernel_rfl) (by kernel_rfl) (by kernel_rfl) (by exact fun _ _ _ h => h) (Or.inl ⟨by rfl, ?_⟩) HS5.out ?_
      rotate_left
      · (intro w' hSw; (try dsimp only at hSw); go_simp; try with_reducible rfl)
      try simp only [Act.put, List.setIfInBounds_toArray, List.set_cons_zero, List.set_cons_succ]
      refine wpAnyM_take (i := 3) (v := ?_) (by simp only [List.getElem?_toArray, List.getElem?_cons_succ, List.getElem?_cons_zero]; rfl) (by kernel_rfl) (by kernel_rfl) (by kernel_rfl) (by kernel_rfl) (by exact fun _ _ _ h => h) (Or.inl ⟨by rfl, ?_⟩) HS5.out ?_
      rotate_left
      · (intro w' hSw; (try dsimp only at hSw); go_simp; try with_reducible rfl)
      try simp only [Act.put, List.setIfInBounds_toArray, List.set_cons_zero, List.set_cons_succ]
      refine wpAnyM_one (i := 2) (by kernel_rfl) (by simp only [List.getElem?_toArray, List.getElem?_cons_succ, List.getElem?_cons_zero]; rfl) ?_
      go_wp2_with (go_at_call 15; refine (wof_any A n c hs w5 (H5.out.2.1.rc (by omega)) HR.out.rl.len).mono ?_; rintro e6 w6 ⟨A6, c6, rfl, hO, hB⟩; (have H6 := Aside0.mk (And.intro (H5.out.1.step hB) (And.intro hO.rc (And.intro (H5.out.2.2.1.below hB) (And.intro (H5.out.2.2.2.1.below hB) ((hB.block _ (Array.getElem?_eq_some_iff.1 H5.out.2.2.2.2).1).trans H5.out.2.2.2.2)))))); clear hO hB)
      have HS6 : ∀ X : World, X.heap[N0]? = some bx → X.cell? ⟨N0, 0, none⟩ = some (.int .i64 ge) ∧ X.cell? ⟨N0, 1, none⟩ = some (.int .i64 ph) ∧ X.cell? ⟨N0, 2, none⟩ = some (.int .i64 tg) ∧ X.cell? ⟨N0, 3, none⟩ = some (.int .i64 tx) ∧ X.cell? ⟨N0, 4, none⟩ = some (.int .i64 rt) ∧ X.cell? ⟨N0, 5, none⟩ = some (.int .i64 pg) ∧ X.cell? ⟨N0, 6, none⟩ = some (.int .i64 li) ∧ X.cell? ⟨N0, 7, none⟩ = some (.slice A' cu.length c') := fun X hX => by
        rw [← HBX.out] at hX
        exact row8_cells hX
      refine ⟨HS6 _ H6.out.2.2.2.2, ?_⟩
      replace HS6 := Aside0.mk HS6
      try simp only [Act.put, List.setIfInBounds_toArray, List.set_cons_zero, List.set_cons_succ]
      refine wpAnyM_one (i := 4) (by kernel_rfl) (by simp only [List.getElem?_toArray, List.getElem?_cons_succ, List.getElem?_cons_zero]; rfl) ?_
      go_wp2_with (go_at_call 14; refine (commit_h H6.out.1 List.mem_cons_self A6 n c6 hs l ⟨ge, ph, tg, tx, rt, pg, li, cu⟩ A' c' 0 0 H6.out.2.1 (H6.out.2.2.1.up (fun p hp => by cases hp)) HR.out.rl.len H6.out.2.2.2.1 ((newDV_up limit).ab rfl (Int.le_refl 0) (Int.le_refl 0)) (by have := HF.out.2; omega) (by omega) (by omega) (by show pg ≤ 1000000; omega)).mono ?_; rintro e7 w7 ⟨rfl, hH⟩; (have H7 := Aside0.mk hH); clear hH)
      try simp only [Act.put, List.setIfInBounds_toArray, List.set_cons_zero, List.set_cons_succ]
      refine wpAnyM_take0 (i := 5) (v := ?_) (by simp only [List.getElem?_toArray, List.getElem?_cons_succ, List.getElem?_cons_zero]; rfl) (by kernel_rfl) (by kernel_rfl) (by kernel_rfl) (by rfl) (by exact fun _ _ _ h => h) (Or.inl ⟨by rfl, ?_⟩) ?_
      rotate_left
      · (intro w' _; go_simp; try with_reducible rfl)
      try simp only [Act.put, List.setIfInBounds_toArray, List.set_cons_zero, List.set_cons_succ]
      refine wpAnyM_done (by kernel_rfl) ?_ _
      have hB7 : Below w2.heap.size w2 w7 := H7.out.bel
      have h7 : w7.heap[N0]? = some bx := (hB7.block _ (Array.getElem?_eq_some_iff.1 H2.out.2.2.2.2).1).trans H2.out.2.2.2.2
      obtain ⟨y0, y1, y2, y3, y4, y5, y6, y7⟩ := HS6.out _ h7
      have HW7 := Aside0.mk (below_then H2.out.1 H2.out.1.size hB7)
      clear hB7 h7
      by_cases q3 : 4 * pg ≤ limit
      · have g3 : decide (4 * pg ≤ limit) = true := decide_eq_true q3
        have hlm : limI limit = limit := by unfold limI; have := HQ.out; rw [if_neg (by omega), if_neg (by omega)]
        obtain ⟨k1, k2, _, _⟩ := commit_ok (newDV_up limit) HP.out (by show 4 * pg ≤ limI limit; omega)
        have KO := Aside0.mk (show (commitS (newDV limit) l ⟨ge, ph, tg, tx, rt, pg, li, cu⟩).1 = 0 ∧ (commitS (newDV limit) l ⟨ge, ph, tg, tx, rt, pg, li, cu⟩).2.ops = (n : Int) + 4 ∧ (commitS (newDV limit) l ⟨ge, ph, tg, tx, rt, pg, li, cu⟩).2.row = [] ∧ nD (commitS (newDV limit) l ⟨ge, ph, tg, tx, rt, pg, li, cu⟩).2 = 4 * pg.toNat by
          refine ⟨k1, ?_, k2.row, ?_⟩
          · rw [k2.ops, ← HR.out.hs.len, HR.out.rl.len]
            show (0 : Int) + _ = _
            omega
          · rw [k2.n, newDV_n]
            show 0 + (4 * pg.toNat - 0) = _
            omega)
        clear k1 k2 hlm q3
        have iw4 : IntKind.i64.wrap ((n : Int) + 4) = (n : Int) + 4 := IntWalk.i64_in _ (by omega)
        rw [KO.out.1]
        go_upto_region 9 with fail
        have cAl : ∀ k : Ext w7, Calls Try.prog 11 #[] k.w fun e w' => e = .returned (.bool true) ∧ Below k.w.heap.size k.w w' := fun k => alive12_any k.w
        have cOp : ∀ k : Ext w7, Calls Try.prog 32 #[.pointer (some ⟨g, 0, none⟩)] k.w fun e w' => e = .returned (.int .i64 ((n : Int) + 4)) ∧ k.w = w' := fun k => by
          have hs := ops_h (H7.out.step k.bel)
          rw [KO.out.2.1] at hs
          exact hs
        have cPe : ∀ k : Ext w7, Calls Try.prog 33 #[.pointer (some ⟨g, 0, none⟩)] k.w fun e w' => e = .returned (.int .i64 0) ∧ k.w = w' := fun k => by
          have hs := pending_h (H7.out.step k.bel)
          rw [KO.out.2.2.1] at hs
          exact hs
        have cPg : ∀ k : Ext w7, Calls Try.prog 28 #[.pointer (some ⟨gp, 0, none⟩)] k.w fun e w' => e = .returned (.int .i64 pg) ∧ k.w = w' := fun k => by
          have hs := pages_h (H7.out.step k.bel) List.mem_cons_self
          rw [KO.out.2.2.2, show (((4 * pg.toNat) / 4 : Nat) : Int) = pg by omega] at hs
          exact hs
        refine wp_region_ext (by kernel_rfl) (by kernel_rfl) ?_
        have a5 := cell_ext y5
        clear y0 y1 y2 y3 y4 y5 y6 y7
        repeat (go_big_quiet_step (first
          | (go_at_call 11; exact Calls.ext_of (cAl _))
          | (go_at_call 32; exact Calls.ext_same (cOp _))
          | (go_at_call 33; exact Calls.ext_same (cPe _))
          | (go_at_call 28; exact Calls.ext_same (cPg _))))
        refine wpQuiet_nil ?_
        rintro w' ⟨kx, rfl⟩
        clear a5
        have HK := Aside0.mk (below_then HW7.out HW7.out.size kx.bel)
        go_wp2_with fail
        try go_ret
        exact ⟨rfl, HK.out⟩
      · have g3 : decide (4 * pg ≤ limit) = false := decide_eq_false q3
        have hlm : limI limit = limit := by unfold limI; have := HQ.out; rw [if_neg (by omega), if_neg (by omega)]
        have KF := Aside0.mk (show commitS (newDV limit) l ⟨ge, ph, tg, tx, rt, pg, li, cu⟩ = (12, newDV limit) by
          unfold commitS
          rw [if_pos HP.out]
          exact all_full (newDV_up limit) (by show limI limit < 4 * pg; omega) _)
        clear q3 hlm
        rw [KF.out] at H7 ⊢
        go_wp2_with (first
          | (go_at_call 11; refine (alive12_any w7).mono ?_; rintro e8 w8 ⟨rfl, hB⟩; (have H8 := Aside0.mk (And.intro (H7.out.step hB) (below_then HW7.out HW7.out.size hB))); clear hB)
          | (go_at_call 32; refine (ops_h H8.out.1).mono ?_; rintro e9 w9 ⟨rfl, rfl⟩; rw [show (newDV limit).ops = 0 from rfl])
          | (go_at_call 29; refine (size_h H8.out.1).mono ?_; rintro e9 w9 ⟨rfl, rfl⟩; rw [newDV_n])
          | fail)
        go_ret
        exact ⟨rfl, H8.out.2⟩
end Go.Proofs.Ythhalmjapiempaa
