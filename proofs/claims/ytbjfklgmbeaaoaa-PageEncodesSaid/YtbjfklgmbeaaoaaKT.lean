/- The walk of PageEncodes. -/
import Derived.Test.YtbjfklgmbeaaoaaKS
set_option linter.unusedVariables false
set_option linter.unusedSimpArgs false
namespace Go.Proofs.Ytbjfklgmbeaaoaa
open Go.RowKit

set_option maxHeartbeats 8000000 in
set_option maxRecDepth 100000 in
theorem pageEncodes_any (g : Int) (hh : NH) (is : List IH) (ks : List KH) (v : NV) (w : World) (hnl : NdL w hh is ks v) :
    Calls Try.prog 8 #[.int .i64 g, .agg (nhv hh)] w fun e w' => e = .returned (.bool true) ∧ Below w.heap.size w w' := by
  obtain ⟨lf, ⟨IA, In, Ic⟩, ⟨KA, Kn, Kc⟩⟩ := hh
  have hli := hnl.ri.lim
  have hlk := hnl.rk.lim
  show Calls Try.prog 8 #[.int .i64 g, .agg #[.bool lf, .slice IA In Ic, .slice KA Kn Kc]] w _
  by_cases q2 : In ≤ 60
  case neg =>
    have d1 : decide (60 < (In : Int)) = true := decide_eq_true (by omega)
    have d1' : (60 : Int) < (In : Int) := by omega
    clear hnl q2
    go_enter Try.func8, Try.ntmps8
    go_upto_region 1 with fail
    have hB0 := (Below.refl _ w).alloc (Nat.le_refl _) (.cells #[.bool lf, .slice IA In Ic, .slice KA Kn Kc] 63)
    have H0 := Aside0.mk (And.intro (heap_alloc_new w (.cells #[.bool lf, .slice IA In Ic, .slice KA Kn Kc] 63)) (And.intro hB0 hB0))
    obtain ⟨w0, hw0⟩ : ∃ X, w.alloc (.cells #[.bool lf, .slice IA In Ic, .slice KA Kn Kc] 63) = X := ⟨_, rfl⟩
    obtain ⟨N, hN⟩ : ∃ X, w.heap.size = X := ⟨_, rfl⟩
    rw [hw0, hN] at H0
    rw [hw0, hN]
    have H0B := Aside0.mk (show Below w.heap.size w w0 by rw [hN]; exact H0.out.2.1)
    clear hB0 hw0 hN
    obtain ⟨y0, y1, y2⟩ := nd_cells H0.out.1
    go_wp2_with (go_at_call 24; refine (alive07_any _).mono ?_; rintro e w2 ⟨rfl, hB⟩; (have H2 := Aside0.mk (below_then H0B.out H0B.out.size hB)); clear hB)
    go_ret
    exact ⟨rfl, H2.out⟩
  case pos =>
    have d1 : decide (60 < (In : Int)) = false := decide_eq_false (by omega)
    by_cases q3 : Kn ≤ 60
    case neg =>
      have d2 : decide (60 < (Kn : Int)) = true := decide_eq_true (by omega)
      have d2' : (60 : Int) < (Kn : Int) := by omega
      clear hnl q2 q3
      go_enter Try.func8, Try.ntmps8
      go_upto_region 1 with fail
      have hB0 := (Below.refl _ w).alloc (Nat.le_refl _) (.cells #[.bool lf, .slice IA In Ic, .slice KA Kn Kc] 63)
      have H0 := Aside0.mk (And.intro (heap_alloc_new w (.cells #[.bool lf, .slice IA In Ic, .slice KA Kn Kc] 63)) (And.intro hB0 hB0))
      obtain ⟨w0, hw0⟩ : ∃ X, w.alloc (.cells #[.bool lf, .slice IA In Ic, .slice KA Kn Kc] 63) = X := ⟨_, rfl⟩
      obtain ⟨N, hN⟩ : ∃ X, w.heap.size = X := ⟨_, rfl⟩
      rw [hw0, hN] at H0
      rw [hw0, hN]
      have H0B := Aside0.mk (show Below w.heap.size w w0 by rw [hN]; exact H0.out.2.1)
      clear hB0 hw0 hN
      obtain ⟨y0, y1, y2⟩ := nd_cells H0.out.1
      go_wp2_with (go_at_call 24; refine (alive07_any _).mono ?_; rintro e w2 ⟨rfl, hB⟩; (have H2 := Aside0.mk (below_then H0B.out H0B.out.size hB)); clear hB)
      go_ret
      exact ⟨rfl, H2.out⟩
    case pos =>
      have d2 : decide (60 < (Kn : Int)) = false := decide_eq_false (by omega)
      have hnd := Aside0.mk (hnl.nd (by show In ≤ 1000; omega) (by show Kn ≤ 1000; omega))
      clear hnl q2 q3
      by_cases q4 : pgE g v = 0
      case neg =>
        obtain ⟨ev, hev⟩ : ∃ x, pgE g v = x := ⟨_, rfl⟩
        rw [hev] at q4
        have HX := Aside0.mk (show pgB g v = [] ∧ pgE g v = ev from ⟨by unfold pgB; rw [hev, if_neg q4], hev⟩)
        have e1 : (ev != ev) = false := bne_self_eq_false _
        have e2 : (ev != 0) = true := bne_iff_ne.2 q4
        have HEQ := Aside0.mk (show (([] : List UInt8) == []) = true from rfl)
        clear q4 hev
        go_enter Try.func8, Try.ntmps8
        go_upto_region 1 with fail
        have hB0 := (Below.refl _ w).alloc (Nat.le_refl _) (.cells #[.bool lf, .slice IA In Ic, .slice KA Kn Kc] 63)
        have H0 := Aside0.mk (And.intro (heap_alloc_new w (.cells #[.bool lf, .slice IA In Ic, .slice KA Kn Kc] 63)) (And.intro hB0 (hnd.out.below hB0)))
        obtain ⟨w0, hw0⟩ : ∃ X, w.alloc (.cells #[.bool lf, .slice IA In Ic, .slice KA Kn Kc] 63) = X := ⟨_, rfl⟩
        obtain ⟨N, hN⟩ : ∃ X, w.heap.size = X := ⟨_, rfl⟩
        rw [hw0, hN] at H0
        rw [hw0, hN]
        have H0B := Aside0.mk (show Below w.heap.size w w0 by rw [hN]; exact H0.out.2.1)
        clear hB0 hw0 hN
        obtain ⟨y0, y1, y2⟩ := nd_cells H0.out.1
        go_upto_region 3 with fail
        have cO := lof_any ⟨lf, (IA, In, Ic), (KA, Kn, Kc)⟩ is ks v w0 H0.out.2.2
        simp only [nhv] at cO
        have cE : ∀ (h1 : NH) (is1 : List IH) (ks1 : List KH) (X : World), Nd X h1 is1 ks1 v → _ := fun h1 is1 ks1 X hX => pencode_any h1 is1 ks1 v g X hX
        have cR : ∀ (X : World), Nd X ⟨lf, (IA, In, Ic), (KA, Kn, Kc)⟩ is ks v → _ := fun X hX => rencode7_any ⟨lf, (IA, In, Ic), (KA, Kn, Kc)⟩ is ks v g X hX
        simp only [nhv] at cR
        rw [HX.out.1, HX.out.2] at cE cR
        go_upto_region 4 with (first
          | (go_at_call 29; refine cO.mono ?_; rintro e wo ⟨⟨lf1, ⟨JA, Jn, Jc⟩, ⟨LA, Ln, Lc⟩⟩, is1, ks1, rfl, hD, hB⟩; (have HO := Aside0.mk (And.intro hD hB)); clear hD hB; simp only [nhv])
          | (go_at_call 28; refine (cE ⟨lf1, (JA, Jn, Jc), (LA, Ln, Lc)⟩ is1 ks1 wo HO.out.1).mono ?_; rintro e w1 ⟨A1, c1, rfl, hO, hB⟩; (have hBB := below_then HO.out.2 HO.out.2.size hB); (have H1 := Aside0.mk (And.intro ((hBB.block _ (Array.getElem?_eq_some_iff.1 H0.out.1).1).trans H0.out.1) (And.intro (H0.out.2.2.below hBB) (And.intro hO.bs (below_then H0B.out H0B.out.size hBB))))); clear hO hB hBB))
        clear cO cE y0 y1 y2
        obtain ⟨y0, y1, y2⟩ := nd_cells H1.out.1
        go_upto_region 5 with (go_at_call 30; refine (cR w1 H1.out.2.1).mono ?_; rintro e w2 ⟨A2, c2, rfl, hO, hB⟩; (have H2 := Aside0.mk (And.intro ((hB.block _ (Array.getElem?_eq_some_iff.1 H1.out.1).1).trans H1.out.1) (And.intro (H1.out.2.1.below hB) (And.intro (H1.out.2.2.1.below hB) (And.intro hO.bs (below_then H1.out.2.2.2 H1.out.2.2.2.size hB)))))); clear hO hB)
        clear cR y0 y1 y2

        go_wp2_with (first
          | (go_at_call 20; refine (equal8_any _ _ _ _ _ _ _ _ w2 H2.out.2.2.1 H2.out.2.2.2.1).mono ?_; rintro e w3 ⟨rfl, rfl⟩; rw [HEQ.out])
          | (go_at_call 24; refine (alive07_any _).mono ?_; rintro e w5 ⟨rfl, hB⟩; (have H5 := Aside0.mk (below_then H2.out.2.2.2.2 H2.out.2.2.2.2.size hB)); clear hB))
        go_ret
        exact ⟨rfl, H5.out⟩
      case pos =>
        have hdec := dec_enc q4
        obtain ⟨x1, hx1⟩ : ∃ x, pgB g v = x := ⟨_, rfl⟩
        rw [hx1] at hdec
        have HX := Aside0.mk (show pgB g v = x1 ∧ pgE g v = 0 from ⟨hx1, q4⟩)
        have HDX := Aside0.mk hdec
        have HEQ := Aside0.mk (show (x1 == x1) = true from beq_self_eq_true x1)
        have hxl : x1.length = 256 := hdec.2.2.2
        have HXL := Aside0.mk hxl
        have e3 : (g == g) = true := beq_self_eq_true g
        clear q4 hx1 hdec hxl
        go_enter Try.func8, Try.ntmps8
        go_upto_region 1 with fail
        have hB0 := (Below.refl _ w).alloc (Nat.le_refl _) (.cells #[.bool lf, .slice IA In Ic, .slice KA Kn Kc] 63)
        have H0 := Aside0.mk (And.intro (heap_alloc_new w (.cells #[.bool lf, .slice IA In Ic, .slice KA Kn Kc] 63)) (And.intro hB0 (hnd.out.below hB0)))
        obtain ⟨w0, hw0⟩ : ∃ X, w.alloc (.cells #[.bool lf, .slice IA In Ic, .slice KA Kn Kc] 63) = X := ⟨_, rfl⟩
        obtain ⟨N, hN⟩ : ∃ X, w.heap.size = X := ⟨_, rfl⟩
        rw [hw0, hN] at H0
        rw [hw0, hN]
        have H0B := Aside0.mk (show Below w.heap.size w w0 by rw [hN]; exact H0.out.2.1)
        clear hB0 hw0 hN
        obtain ⟨y0, y1, y2⟩ := nd_cells H0.out.1
        go_upto_region 3 with fail
        have cO := lof_any ⟨lf, (IA, In, Ic), (KA, Kn, Kc)⟩ is ks v w0 H0.out.2.2
        simp only [nhv] at cO
        have cE : ∀ (h1 : NH) (is1 : List IH) (ks1 : List KH) (X : World), Nd X h1 is1 ks1 v → _ := fun h1 is1 ks1 X hX => pencode_any h1 is1 ks1 v g X hX
        have cR : ∀ (X : World), Nd X ⟨lf, (IA, In, Ic), (KA, Kn, Kc)⟩ is ks v → _ := fun X hX => rencode7_any ⟨lf, (IA, In, Ic), (KA, Kn, Kc)⟩ is ks v g X hX
        simp only [nhv] at cR
        rw [HX.out.1, HX.out.2, HXL.out] at cE cR
        go_upto_region 4 with (first
          | (go_at_call 29; refine cO.mono ?_; rintro e wo ⟨⟨lf1, ⟨JA, Jn, Jc⟩, ⟨LA, Ln, Lc⟩⟩, is1, ks1, rfl, hD, hB⟩; (have HO := Aside0.mk (And.intro hD hB)); clear hD hB; simp only [nhv])
          | (go_at_call 28; refine (cE ⟨lf1, (JA, Jn, Jc), (LA, Ln, Lc)⟩ is1 ks1 wo HO.out.1).mono ?_; rintro e w1 ⟨A1, c1, rfl, hO, hB⟩; (have hBB := below_then HO.out.2 HO.out.2.size hB); (have H1 := Aside0.mk (And.intro ((hBB.block _ (Array.getElem?_eq_some_iff.1 H0.out.1).1).trans H0.out.1) (And.intro (H0.out.2.2.below hBB) (And.intro hO.bs (below_then H0B.out H0B.out.size hBB))))); clear hO hB hBB))
        clear cO cE y0 y1 y2
        obtain ⟨y0, y1, y2⟩ := nd_cells H1.out.1
        go_upto_region 5 with (go_at_call 30; refine (cR w1 H1.out.2.1).mono ?_; rintro e w2 ⟨A2, c2, rfl, hO, hB⟩; (have H2 := Aside0.mk (And.intro ((hB.block _ (Array.getElem?_eq_some_iff.1 H1.out.1).1).trans H1.out.1) (And.intro (H1.out.2.1.below hB) (And.intro (H1.out.2.2.1.below hB) (And.intro hO.bs (below_then H1.out.2.2.2 H1.out.2.2.2.size hB)))))); clear hO hB)
        clear cR y0 y1 y2

        have cD := pdecode_any A1 256 c1 x1 w2 H2.out.2.2.1
        rw [HDX.out.1, HDX.out.2.1, HDX.out.2.2.1] at cD
        go_upto_region 10 with (first
          | (go_at_call 20; refine (equal8_any _ _ _ _ _ _ _ _ w2 H2.out.2.2.1 H2.out.2.2.2.1).mono ?_; rintro e w3 ⟨rfl, rfl⟩; rw [HEQ.out])
          | (go_at_call 31; refine cD.mono ?_; rintro e w4 ⟨⟨lf3, ⟨IA3, In3, Ic3⟩, ⟨KA3, Kn3, Kc3⟩⟩, is3, ks3, rfl, hD, hB⟩; (have H4 := Aside0.mk (And.intro hD hB)); clear hD hB; simp only [nhv]))
        clear cD
        have hb := (Below.refl _ w4).alloc (Nat.le_refl _) (.cells #[.bool lf3, .slice IA3 In3 Ic3, .slice KA3 Kn3 Kc3] 69)
        have hbb := below_then H4.out.2 H4.out.2.size hb
        have hA := And.intro (heap_alloc_new w4 (.cells #[.bool lf3, .slice IA3 In3 Ic3, .slice KA3 Kn3 Kc3] 69)) (And.intro (H4.out.1.below hb) hbb)
        obtain ⟨w5, hw5⟩ : ∃ X, w4.alloc (.cells #[.bool lf3, .slice IA3 In3 Ic3, .slice KA3 Kn3 Kc3] 69) = X := ⟨_, rfl⟩
        obtain ⟨M, hM⟩ : ∃ X, w4.heap.size = X := ⟨_, rfl⟩
        rw [hw5] at hA
        have H5 := Aside0.mk (show w5.heap[M]? = some (.cells #[.bool lf3, .slice IA3 In3 Ic3, .slice KA3 Kn3 Kc3] 69) ∧ Nd w5 ⟨lf3, (IA3, In3, Ic3), (KA3, Kn3, Kc3)⟩ is3 ks3 v ∧ Below w2.heap.size w2 w5 from ⟨by rw [← hM]; exact hA.1, hA.2.1, hA.2.2⟩)
        rw [hw5, hM]
        clear hb hbb hA hw5 hM
        obtain ⟨u0, hu0⟩ : ∃ X, w5.drew = X := ⟨_, rfl⟩
        have HBd := Aside0.mk (show Below w5.heap.size w5 u0 by rw [← hu0]; exact below_drew (Below.refl _ _))
        have HS := Aside0.mk (show ∀ X : World, Below w5.heap.size w5 X → X.cell? ⟨M, 0, none⟩ = some (.bool lf3) ∧ X.cell? ⟨M, 1, none⟩ = some (.slice IA3 In3 Ic3) ∧ X.cell? ⟨M, 2, none⟩ = some (.slice KA3 Kn3 Kc3) ∧ X.cell? ⟨N, 0, none⟩ = some (.bool lf) ∧ X.cell? ⟨N, 1, none⟩ = some (.slice IA In Ic) ∧ X.cell? ⟨N, 2, none⟩ = some (.slice KA Kn Kc) from fun X hX => by
          obtain ⟨a0, a1, a2⟩ := nd_cells ((hX.block _ (Array.getElem?_eq_some_iff.1 H5.out.1).1).trans H5.out.1)
          have hY := below_then H5.out.2.2 H5.out.2.2.size hX
          obtain ⟨b0, b1, b2⟩ := nd_cells ((hY.block _ (Array.getElem?_eq_some_iff.1 H2.out.1).1).trans H2.out.1)
          exact ⟨a0, a1, a2, b0, b1, b2⟩)
        have cL : ∀ X, Nd X ⟨lf3, (IA3, In3, Ic3), (KA3, Kn3, Kc3)⟩ is3 ks3 v → _ := fun X hX => lold_any ⟨lf3, (IA3, In3, Ic3), (KA3, Kn3, Kc3)⟩ is3 ks3 v X hX
        simp only [nhv] at cL
        refine wp_region_M (fun j => decide (j < 22)) (fun w' => w'.cell? ⟨M, 0, none⟩ = some (.bool lf3) ∧ w'.cell? ⟨M, 1, none⟩ = some (.slice IA3 In3 Ic3) ∧ w'.cell? ⟨M, 2, none⟩ = some (.slice KA3 Kn3 Kc3) ∧ w'.cell? ⟨N, 0, none⟩ = some (.bool lf) ∧ w'.cell? ⟨N, 1, none⟩ = some (.slice IA In Ic) ∧ w'.cell? ⟨N, 2, none⟩ = some (.slice KA Kn Kc)) (by kernel_rfl) ?_
        rw [hu0]
        clear hu0
        refine wpAnyM_one (i := 0) (by kernel_rfl) (by simp only [List.getElem?_toArray, List.getElem?_cons_succ, List.getElem?_cons_zero]; rfl) ?_
        go_wp2_with (go_at_call 24; refine (alive07_any _).mono ?_; rintro e u1 ⟨rfl, hB⟩; (have H6 := Aside0.mk (below_then HBd.out HBd.out.size hB)); clear hB)
        refine ⟨HS.out _ H6.out, ?_⟩
        try simp only [Act.put, List.setIfInBounds_toArray, List.set_cons_zero, List.set_cons_succ]
        refine wpAnyM_take (i := 1) (v := ?_) (by simp only [List.getElem?_toArray, List.getElem?_cons_succ, List.getElem?_cons_zero]; rfl) (by kernel_rfl) (by kernel_rfl) (by kernel_rfl) (by kernel_rfl) (by exact fun _ _ _ h => h) (Or.inl ⟨by rfl, ?_⟩) (HS.out _ H6.out) ?_
        rotate_left
        · (intro w' hSw; (try dsimp only at hSw); go_simp; try with_reducible rfl)
        try simp only [Act.put, List.setIfInBounds_toArray, List.set_cons_zero, List.set_cons_succ]
        refine wpAnyM_take (i := 2) (v := ?_) (by simp only [List.getElem?_toArray, List.getElem?_cons_succ, List.getElem?_cons_zero]; rfl) (by kernel_rfl) (by kernel_rfl) (by kernel_rfl) (by kernel_rfl) (by exact fun _ _ _ h => h) (Or.inl ⟨by rfl, ?_⟩) (HS.out _ H6.out) ?_
        rotate_left
        · (intro w' hSw; (try dsimp only at hSw); go_simp; try with_reducible rfl)
        try simp only [Act.put, List.setIfInBounds_toArray, List.set_cons_zero, List.set_cons_succ]
        refine wpAnyM_take (i := 3) (v := ?_) (by simp only [List.getElem?_toArray, List.getElem?_cons_succ, List.getElem?_cons_zero]; rfl) (by kernel_rfl) (by kernel_rfl) (by kernel_rfl) (by kernel_rfl) (by exact fun _ _ _ h => h) (Or.inl ⟨by rfl, ?_⟩) (HS.out _ H6.out) ?_
        rotate_left
        · (intro w' hSw; (try dsimp only at hSw); go_simp; try with_reducible rfl)
        try simp only [Act.put, List.setIfInBounds_toArray, List.set_cons_zero, List.set_cons_succ]
        refine wpAnyM_take (i := 4) (v := ?_) (by simp only [List.getElem?_toArray, List.getElem?_cons_succ, List.getElem?_cons_zero]; rfl) (by kernel_rfl) (by kernel_rfl) (by kernel_rfl) (by kernel_rfl) (by exact fun _ _ _ h => h) (Or.inl ⟨by rfl, ?_⟩) (HS.out _ H6.out) ?_
        rotate_left
        · (intro w' hSw; (try dsimp only at hSw); go_simp; try with_reducible rfl)
        try simp only [Act.put, List.setIfInBounds_toArray, List.set_cons_zero, List.set_cons_succ]
        refine wpAnyM_take (i := 5) (v := ?_) (by simp only [List.getElem?_toArray, List.getElem?_cons_succ, List.getElem?_cons_zero]; rfl) (by kernel_rfl) (by kernel_rfl) (by kernel_rfl) (by kernel_rfl) (by exact fun _ _ _ h => h) (Or.inl ⟨by rfl, ?_⟩) (HS.out _ H6.out) ?_
        rotate_left
        · (intro w' hSw; (try dsimp only at hSw); go_simp; try with_reducible rfl)
        try simp only [Act.put, List.setIfInBounds_toArray, List.set_cons_zero, List.set_cons_succ]
        refine wpAnyM_take (i := 6) (v := ?_) (by simp only [List.getElem?_toArray, List.getElem?_cons_succ, List.getElem?_cons_zero]; rfl) (by kernel_rfl) (by kernel_rfl) (by kernel_rfl) (by kernel_rfl) (by exact fun _ _ _ h => h) (Or.inl ⟨by rfl, ?_⟩) (HS.out _ H6.out) ?_
        rotate_left
        · (intro w' hSw; (try dsimp only at hSw); go_simp; try with_reducible rfl)
        try simp only [Act.put, List.setIfInBounds_toArray, List.set_cons_zero, List.set_cons_succ]
        refine wpAnyM_take (i := 7) (v := ?_) (by simp only [List.getElem?_toArray, List.getElem?_cons_succ, List.getElem?_cons_zero]; rfl) (by kernel_rfl) (by kernel_rfl) (by kernel_rfl) (by kernel_rfl) (by exact fun _ _ _ h => h) (Or.inl ⟨by rfl, ?_⟩) (HS.out _ H6.out) ?_
        rotate_left
        · (intro w' hSw; (try dsimp only at hSw); go_simp; try with_reducible rfl)
        try simp only [Act.put, List.setIfInBounds_toArray, List.set_cons_zero, List.set_cons_succ]
        refine wpAnyM_take (i := 8) (v := ?_) (by simp only [List.getElem?_toArray, List.getElem?_cons_succ, List.getElem?_cons_zero]; rfl) (by kernel_rfl) (by kernel_rfl) (by kernel_rfl) (by kernel_rfl) (by exact fun _ _ _ h => h) (Or.inl ⟨by rfl, ?_⟩) (HS.out _ H6.out) ?_
        rotate_left
        · (intro w' hSw; (try dsimp only at hSw); go_simp; try with_reducible rfl)
        try simp only [Act.put, List.setIfInBounds_toArray, List.set_cons_zero, List.set_cons_succ]
        refine wpAnyM_take (i := 9) (v := ?_) (by simp only [List.getElem?_toArray, List.getElem?_cons_succ, List.getElem?_cons_zero]; rfl) (by kernel_rfl) (by kernel_rfl) (by kernel_rfl) (by kernel_rfl) (by exact fun _ _ _ h => h) (Or.inl ⟨by rfl, ?_⟩) (HS.out _ H6.out) ?_
        rotate_left
        · (intro w' hSw; (try dsimp only at hSw); go_simp; try with_reducible rfl)
        try simp only [Act.put, List.setIfInBounds_toArray, List.set_cons_zero, List.set_cons_succ]
        refine wpAnyM_take (i := 10) (v := ?_) (by simp only [List.getElem?_toArray, List.getElem?_cons_succ, List.getElem?_cons_zero]; rfl) (by kernel_rfl) (by kernel_rfl) (by kernel_rfl) (by kernel_rfl) (by exact fun _ _ _ h => h) (Or.inl ⟨by rfl, ?_⟩) (HS.out _ H6.out) ?_
        rotate_left
        · (intro w' hSw; (try dsimp only at hSw); go_simp; try with_reducible rfl)
        try simp only [Act.put, List.setIfInBounds_toArray, List.set_cons_zero, List.set_cons_succ]
        refine wpAnyM_take (i := 11) (v := ?_) (by simp only [List.getElem?_toArray, List.getElem?_cons_succ, List.getElem?_cons_zero]; rfl) (by kernel_rfl) (by kernel_rfl) (by kernel_rfl) (by kernel_rfl) (by exact fun _ _ _ h => h) (Or.inl ⟨by rfl, ?_⟩) (HS.out _ H6.out) ?_
        rotate_left
        · (intro w' hSw; (try dsimp only at hSw); go_simp; try with_reducible rfl)
        try simp only [Act.put, List.setIfInBounds_toArray, List.set_cons_zero, List.set_cons_succ]
        refine wpAnyM_take (i := 12) (v := ?_) (by simp only [List.getElem?_toArray, List.getElem?_cons_succ, List.getElem?_cons_zero]; rfl) (by kernel_rfl) (by kernel_rfl) (by kernel_rfl) (by kernel_rfl) (by exact fun _ _ _ h => h) (Or.inl ⟨by rfl, ?_⟩) (HS.out _ H6.out) ?_
        rotate_left
        · (intro w' hSw; (try dsimp only at hSw); go_simp; try with_reducible rfl)
        try simp only [Act.put, List.setIfInBounds_toArray, List.set_cons_zero, List.set_cons_succ]
        refine wpAnyM_take (i := 13) (v := ?_) (by simp only [List.getElem?_toArray, List.getElem?_cons_succ, List.getElem?_cons_zero]; rfl) (by kernel_rfl) (by kernel_rfl) (by kernel_rfl) (by kernel_rfl) (by exact fun _ _ _ h => h) (Or.inl ⟨by rfl, ?_⟩) (HS.out _ H6.out) ?_
        rotate_left
        · (intro w' hSw; (try dsimp only at hSw); go_simp; try with_reducible rfl)
        try simp only [Act.put, List.setIfInBounds_toArray, List.set_cons_zero, List.set_cons_succ]
        refine wpAnyM_take (i := 14) (v := ?_) (by simp only [List.getElem?_toArray, List.getElem?_cons_succ, List.getElem?_cons_zero]; rfl) (by kernel_rfl) (by kernel_rfl) (by kernel_rfl) (by kernel_rfl) (by exact fun _ _ _ h => h) (Or.inl ⟨by rfl, ?_⟩) (HS.out _ H6.out) ?_
        rotate_left
        · (intro w' hSw; (try dsimp only at hSw); go_simp; try with_reducible rfl)
        try simp only [Act.put, List.setIfInBounds_toArray, List.set_cons_zero, List.set_cons_succ]
        refine wpAnyM_take (i := 15) (v := ?_) (by simp only [List.getElem?_toArray, List.getElem?_cons_succ, List.getElem?_cons_zero]; rfl) (by kernel_rfl) (by kernel_rfl) (by kernel_rfl) (by kernel_rfl) (by exact fun _ _ _ h => h) (Or.inl ⟨by rfl, ?_⟩) (HS.out _ H6.out) ?_
        rotate_left
        · (intro w' hSw; (try dsimp only at hSw); go_simp; try with_reducible rfl)
        try simp only [Act.put, List.setIfInBounds_toArray, List.set_cons_zero, List.set_cons_succ]
        refine wpAnyM_take (i := 16) (v := ?_) (by simp only [List.getElem?_toArray, List.getElem?_cons_succ, List.getElem?_cons_zero]; rfl) (by kernel_rfl) (by kernel_rfl) (by kernel_rfl) (by kernel_rfl) (by exact fun _ _ _ h => h) (Or.inl ⟨by rfl, ?_⟩) (HS.out _ H6.out) ?_
        rotate_left
        · (intro w' hSw; (try dsimp only at hSw); go_simp; try with_reducible rfl)
        try simp only [Act.put, List.setIfInBounds_toArray, List.set_cons_zero, List.set_cons_succ]
        refine wpAnyM_take (i := 18) (v := ?_) (by simp only [List.getElem?_toArray, List.getElem?_cons_succ, List.getElem?_cons_zero]; rfl) (by kernel_rfl) (by kernel_rfl) (by kernel_rfl) (by kernel_rfl) (by exact fun _ _ _ h => h) (Or.inl ⟨by rfl, ?_⟩) (HS.out _ H6.out) ?_
        rotate_left
        · (intro w' hSw; (try dsimp only at hSw); go_simp; try with_reducible rfl)
        try simp only [Act.put, List.setIfInBounds_toArray, List.set_cons_zero, List.set_cons_succ]
        refine wpAnyM_one (i := 17) (by kernel_rfl) (by simp only [List.getElem?_toArray, List.getElem?_cons_succ, List.getElem?_cons_zero]; rfl) ?_
        go_wp2_with (go_at_call 33; refine (cL u1 (H5.out.2.1.below H6.out)).mono ?_; rintro e u2 ⟨⟨lf4, ⟨IA4, In4, Ic4⟩, ⟨KA4, Kn4, Kc4⟩⟩, is4, ks4, rfl, hD, hB⟩; (have H7 := Aside0.mk (And.intro hD (below_then H6.out H6.out.size hB))); clear hD hB; simp only [nhv])
        refine ⟨HS.out _ H7.out.2, ?_⟩
        try simp only [Act.put, List.setIfInBounds_toArray, List.set_cons_zero, List.set_cons_succ]
        clear cL
        have cQ := r6same_any ⟨lf4, (IA4, In4, Ic4), (KA4, Kn4, Kc4)⟩ ⟨lf, (IA, In, Ic), (KA, Kn, Kc)⟩ is4 is ks4 ks v u2 H7.out.1 (H2.out.2.1.below (below_then H5.out.2.2 H5.out.2.2.size H7.out.2))
        simp only [nhv] at cQ
        refine wpAnyM_one (i := 19) (by kernel_rfl) (by simp only [List.getElem?_toArray, List.getElem?_cons_succ, List.getElem?_cons_zero]; rfl) ?_
        go_wp2_with (go_at_call 32; refine cQ.mono ?_; rintro e u3 ⟨rfl, hB⟩; (have H8 := Aside0.mk (below_then H7.out.2 H7.out.2.size hB)); clear hB)
        refine ⟨HS.out _ H8.out, ?_⟩
        try simp only [Act.put, List.setIfInBounds_toArray, List.set_cons_zero, List.set_cons_succ]
        refine wpAnyM_take (i := 20) (v := ?_) (by simp only [List.getElem?_toArray, List.getElem?_cons_succ, List.getElem?_cons_zero]; rfl) (by kernel_rfl) (by kernel_rfl) (by kernel_rfl) (by kernel_rfl) (by exact fun _ _ _ h => h) (Or.inl ⟨by rfl, ?_⟩) (HS.out _ H8.out) ?_
        rotate_left
        · (intro w' hSw; (try dsimp only at hSw); go_simp; try with_reducible rfl)
        try simp only [Act.put, List.setIfInBounds_toArray, List.set_cons_zero, List.set_cons_succ]
        refine wpAnyM_take (i := 21) (v := ?_) (by simp only [List.getElem?_toArray, List.getElem?_cons_succ, List.getElem?_cons_zero]; rfl) (by kernel_rfl) (by kernel_rfl) (by kernel_rfl) (by kernel_rfl) (by exact fun _ _ _ h => h) (Or.inl ⟨by rfl, ?_⟩) (HS.out _ H8.out) ?_
        rotate_left
        · (intro w' hSw; (try dsimp only at hSw); go_simp; try with_reducible rfl)
        try simp only [Act.put, List.setIfInBounds_toArray, List.set_cons_zero, List.set_cons_succ]
        refine wpAnyM_done (by kernel_rfl) ?_ _
        go_wp2_with fail
        go_ret
        exact ⟨rfl, below_then (below_then H2.out.2.2.2.2 H2.out.2.2.2.2.size H5.out.2.2) (by have := H2.out.2.2.2.2.size; have := H5.out.2.2.size; omega) H8.out⟩
end Go.Proofs.Ytbjfklgmbeaaoaa
