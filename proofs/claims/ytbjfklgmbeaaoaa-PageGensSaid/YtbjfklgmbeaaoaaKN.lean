/- The walk of PageGens. -/
import Derived.Test.YtbjfklgmbeaaoaaV3
set_option linter.unusedVariables false
set_option linter.unusedSimpArgs false
namespace Go.Proofs.Ytbjfklgmbeaaoaa
open Go.RowKit

structure RcL (w : World) (k : Nat) (A : Option Addr) (n c : Nat) (xs : List Value) : Prop where
  len : xs.length = n * k
  le : n ≤ c
  cap : c ≤ 9223372036854775807
  lim : n ≤ 140737488355328
  one : ∀ v, v ∈ xs → v.oneCell' = true
  cells : 0 < n → ∃ ad, A = some ad ∧ ∀ j u, xs[j]? = some u → w.cell? (ad.add j) = some u
theorem RcL.rc {w : World} {k n c : Nat} {A : Option Addr} {xs : List Value} (h : RcL w k A n c xs) (hn : n ≤ 1000000000) : Rc w k A n c xs := ⟨h.len, h.le, h.cap, hn, h.one, h.cells⟩
/-- A node in memory, however long its slices. -/
structure NdL (W : World) (h : NH) (is : List IH) (ks : List KH) (v : NV) : Prop where
  leaf : h.leaf = v.leaf
  ri : RcL W 4 h.I.1 h.I.2.1 h.I.2.2 (ihv is)
  rk : RcL W 2 h.K.1 h.K.2.1 h.K.2.2 (khv ks)
  li : is.length = h.I.2.1
  lk : ks.length = h.K.2.1
  its : Its W is v.items
  kds : Kds W ks v.kids
theorem NdL.nd {W : World} {h : NH} {is : List IH} {ks : List KH} {v : NV} (k : NdL W h is ks v) (h1 : h.I.2.1 ≤ 1000) (h2 : h.K.2.1 ≤ 1000) : Nd W h is ks v := ⟨k.leaf, k.ri.rc (by omega), k.rk.rc (by omega), k.li, k.lk, k.its, k.kds, h1, h2⟩
set_option maxHeartbeats 8000000 in
set_option maxRecDepth 100000 in
theorem pageGens_any (g h : Int) (hh : NH) (is : List IH) (ks : List KH) (v : NV) (w : World) (hnl : NdL w hh is ks v) :
    Calls Try.prog 9 #[.int .i64 g, .int .i64 h, .agg (nhv hh)] w fun e w' => e = .returned (.bool true) ∧ Below w.heap.size w w' := by
  obtain ⟨lf, ⟨IA, In, Ic⟩, ⟨KA, Kn, Kc⟩⟩ := hh
  have hli := hnl.ri.lim
  have hlk := hnl.rk.lim
  have hn := Aside0.mk hnl
  show Calls Try.prog 9 #[.int .i64 g, .int .i64 h, .agg #[.bool lf, .slice IA In Ic, .slice KA Kn Kc]] w _
  by_cases q1 : g = h
  case pos =>
    have g1 : (g == h) = true := beq_iff_eq.2 q1
    clear hnl q1
    go_enter Try.func9, Try.ntmps9
    go_upto_region 1 with fail
    have hB0 := (Below.refl _ w).alloc (Nat.le_refl _) (.cells #[.bool lf, .slice IA In Ic, .slice KA Kn Kc] 63)
    have H0 := Aside0.mk (And.intro (heap_alloc_new w (.cells #[.bool lf, .slice IA In Ic, .slice KA Kn Kc] 63)) (And.intro hB0 hB0))
    obtain ⟨w0, hw0⟩ : ∃ X, w.alloc (.cells #[.bool lf, .slice IA In Ic, .slice KA Kn Kc] 63) = X := ⟨_, rfl⟩
    obtain ⟨N, hN⟩ : ∃ X, w.heap.size = X := ⟨_, rfl⟩
    rw [hw0, hN] at H0
    rw [hw0, hN]
    have H0B := Aside0.mk (show Below w.heap.size w w0 by rw [hN]; exact H0.out.2.1)
    clear hB0 hw0 hN
    obtain ⟨y0, y1, y2⟩ := nd_cells H0.out.1
    go_wp2_with (go_at_call 24; refine (alive07_any _).mono ?_; rintro e w2 ⟨rfl, hB⟩; (have H2 := Aside0.mk (below_then H0B.out H0B.out.size hB)); clear hB)
    go_ret
    exact ⟨rfl, H2.out⟩
  case neg =>
    have g1 : (g == h) = false := beq_eq_false_iff_ne.2 q1
    by_cases q2 : In ≤ 60
    case neg =>
      have d1 : decide (60 < (In : Int)) = true := decide_eq_true (by omega)
      have d1' : (60 : Int) < (In : Int) := by omega
      clear hnl q1 q2
      go_enter Try.func9, Try.ntmps9
      go_upto_region 1 with fail
      have hB0 := (Below.refl _ w).alloc (Nat.le_refl _) (.cells #[.bool lf, .slice IA In Ic, .slice KA Kn Kc] 63)
      have H0 := Aside0.mk (And.intro (heap_alloc_new w (.cells #[.bool lf, .slice IA In Ic, .slice KA Kn Kc] 63)) (And.intro hB0 hB0))
      obtain ⟨w0, hw0⟩ : ∃ X, w.alloc (.cells #[.bool lf, .slice IA In Ic, .slice KA Kn Kc] 63) = X := ⟨_, rfl⟩
      obtain ⟨N, hN⟩ : ∃ X, w.heap.size = X := ⟨_, rfl⟩
      rw [hw0, hN] at H0
      rw [hw0, hN]
      have H0B := Aside0.mk (show Below w.heap.size w w0 by rw [hN]; exact H0.out.2.1)
      clear hB0 hw0 hN
      obtain ⟨y0, y1, y2⟩ := nd_cells H0.out.1
      go_wp2_with (go_at_call 24; refine (alive07_any _).mono ?_; rintro e w2 ⟨rfl, hB⟩; (have H2 := Aside0.mk (below_then H0B.out H0B.out.size hB)); clear hB)
      go_ret
      exact ⟨rfl, H2.out⟩
    case pos =>
      have d1 : decide (60 < (In : Int)) = false := decide_eq_false (by omega)
      by_cases q3 : Kn ≤ 60
      case neg =>
        have d2 : decide (60 < (Kn : Int)) = true := decide_eq_true (by omega)
        have d2' : (60 : Int) < (Kn : Int) := by omega
        clear hnl q1 q2 q3
        go_enter Try.func9, Try.ntmps9
        go_upto_region 1 with fail
        have hB0 := (Below.refl _ w).alloc (Nat.le_refl _) (.cells #[.bool lf, .slice IA In Ic, .slice KA Kn Kc] 63)
        have H0 := Aside0.mk (And.intro (heap_alloc_new w (.cells #[.bool lf, .slice IA In Ic, .slice KA Kn Kc] 63)) (And.intro hB0 hB0))
        obtain ⟨w0, hw0⟩ : ∃ X, w.alloc (.cells #[.bool lf, .slice IA In Ic, .slice KA Kn Kc] 63) = X := ⟨_, rfl⟩
        obtain ⟨N, hN⟩ : ∃ X, w.heap.size = X := ⟨_, rfl⟩
        rw [hw0, hN] at H0
        rw [hw0, hN]
        have H0B := Aside0.mk (show Below w.heap.size w w0 by rw [hN]; exact H0.out.2.1)
        clear hB0 hw0 hN
        obtain ⟨y0, y1, y2⟩ := nd_cells H0.out.1
        go_wp2_with (go_at_call 24; refine (alive07_any _).mono ?_; rintro e w2 ⟨rfl, hB⟩; (have H2 := Aside0.mk (below_then H0B.out H0B.out.size hB)); clear hB)
        go_ret
        exact ⟨rfl, H2.out⟩
      case pos =>
        have d2 : decide (60 < (Kn : Int)) = false := decide_eq_false (by omega)
        have hnd := Aside0.mk (hnl.nd (by show In ≤ 1000; omega) (by show Kn ≤ 1000; omega))
        have HNE := Aside0.mk q1
        clear hnl q1 q2 q3
        obtain ⟨x1, hx1⟩ : ∃ x, pgB g v = x := ⟨_, rfl⟩
        obtain ⟨x2, hx2⟩ : ∃ x, pgB h v = x := ⟨_, rfl⟩
        have HX1 := Aside0.mk hx1
        have HX2 := Aside0.mk hx2
        clear hx1 hx2
        go_enter Try.func9, Try.ntmps9
        go_upto_region 1 with fail
        have hB0 := (Below.refl _ w).alloc (Nat.le_refl _) (.cells #[.bool lf, .slice IA In Ic, .slice KA Kn Kc] 63)
        have H0 := Aside0.mk (And.intro (heap_alloc_new w (.cells #[.bool lf, .slice IA In Ic, .slice KA Kn Kc] 63)) (And.intro hB0 (hnd.out.below hB0)))
        obtain ⟨w0, hw0⟩ : ∃ X, w.alloc (.cells #[.bool lf, .slice IA In Ic, .slice KA Kn Kc] 63) = X := ⟨_, rfl⟩
        obtain ⟨N, hN⟩ : ∃ X, w.heap.size = X := ⟨_, rfl⟩
        rw [hw0, hN] at H0
        rw [hw0, hN]
        have H0B := Aside0.mk (show Below w.heap.size w w0 by rw [hN]; exact H0.out.2.1)
        clear hB0 hw0 hN
        obtain ⟨y0, y1, y2⟩ := nd_cells H0.out.1

        go_upto_region 3 with fail
        have H0p := Aside0.mk (And.intro H0.out.1 H0.out.2.2)
        have cO1 := lof_any ⟨lf, (IA, In, Ic), (KA, Kn, Kc)⟩ is ks v w0 H0p.out.2
        simp only [nhv] at cO1
        have cE1 : ∀ (h1 : NH) (is1 : List IH) (ks1 : List KH) (X : World), Nd X h1 is1 ks1 v → _ := fun h1 is1 ks1 X hX => pencode_any h1 is1 ks1 v g X hX
        rw [HX1.out] at cE1
        go_upto_region 4 with (first
          | (go_at_call 29; refine cO1.mono ?_; rintro e wo1 ⟨⟨lf1, ⟨JA, Jn, Jc⟩, ⟨LA, Ln, Lc⟩⟩, is1, ks1, rfl, hD, hB⟩; (have HO1 := Aside0.mk (And.intro hD hB)); clear hD hB; simp only [nhv])
          | (go_at_call 28; refine (cE1 ⟨lf1, (JA, Jn, Jc), (LA, Ln, Lc)⟩ is1 ks1 wo1 HO1.out.1).mono ?_; rintro e we1 ⟨A1, c1, rfl, hO, hB⟩; (have hBB := below_then HO1.out.2 HO1.out.2.size hB); (have HE1 := Aside0.mk (And.intro ((hBB.block _ (Array.getElem?_eq_some_iff.1 H0p.out.1).1).trans H0p.out.1) (H0p.out.2.below hBB))); (have HF1 := Aside0.mk (And.intro hO.bs hBB)); clear hO hB hBB))
        clear cO1 cE1
        clear y0 y1 y2
        obtain ⟨y0, y1, y2⟩ := nd_cells HE1.out.1
        have cO2 := lof_any ⟨lf, (IA, In, Ic), (KA, Kn, Kc)⟩ is ks v we1 HE1.out.2
        simp only [nhv] at cO2
        have cE2 : ∀ (h1 : NH) (is1 : List IH) (ks1 : List KH) (X : World), Nd X h1 is1 ks1 v → _ := fun h1 is1 ks1 X hX => pencode_any h1 is1 ks1 v h X hX
        rw [HX2.out] at cE2
        go_upto_region 5 with (first
          | (go_at_call 29; refine cO2.mono ?_; rintro e wo2 ⟨⟨lf1, ⟨JA, Jn, Jc⟩, ⟨LA, Ln, Lc⟩⟩, is1, ks1, rfl, hD, hB⟩; (have HO2 := Aside0.mk (And.intro hD hB)); clear hD hB; simp only [nhv])
          | (go_at_call 28; refine (cE2 ⟨lf1, (JA, Jn, Jc), (LA, Ln, Lc)⟩ is1 ks1 wo2 HO2.out.1).mono ?_; rintro e we2 ⟨A2, c2, rfl, hO, hB⟩; (have hBB := below_then HO2.out.2 HO2.out.2.size hB); (have HE2 := Aside0.mk (And.intro ((hBB.block _ (Array.getElem?_eq_some_iff.1 HE1.out.1).1).trans HE1.out.1) (HE1.out.2.below hBB))); (have HF2 := Aside0.mk (And.intro hO.bs hBB)); clear hO hB hBB))
        clear cO2 cE2
        clear y0 y1 y2

        have HB2 := Aside0.mk (below_then (below_then H0B.out H0B.out.size HF1.out.2) (by have := H0B.out.size; have := HF1.out.2.size; omega) HF2.out.2)
        by_cases q4 : pgE g v = 0
        case neg =>
          have e1 : (pgE g v != 0) = true := bne_iff_ne.2 q4
          clear q4
          go_wp2_with (go_at_call 24; refine (alive07_any _).mono ?_; rintro e w2 ⟨rfl, hB⟩; (have H2 := Aside0.mk (below_then HB2.out HB2.out.size hB)); clear hB)
          go_ret
          exact ⟨rfl, H2.out⟩
        case pos =>
          have e1 : (pgE g v != 0) = false := bne_eq_false_iff_eq.2 q4
          by_cases q5 : pgE h v = 0
          case neg =>
            have e2 : (pgE h v != 0) = true := bne_iff_ne.2 q5
            clear q4 q5
            go_wp2_with (go_at_call 24; refine (alive07_any _).mono ?_; rintro e w2 ⟨rfl, hB⟩; (have H2 := Aside0.mk (below_then HB2.out HB2.out.size hB)); clear hB)
            go_ret
            exact ⟨rfl, H2.out⟩
          case pos =>
            have e2 : (pgE h v != 0) = false := bne_eq_false_iff_eq.2 q5
            have k1 := dec_enc q4
            have k2 := dec_enc q5
            rw [HX1.out] at k1
            rw [HX2.out] at k2
            have DX1 := Aside0.mk (And.intro k1.1 (And.intro k1.2.1 k1.2.2.1))
            have DX2 := Aside0.mk (And.intro k2.1 (And.intro k2.2.1 k2.2.2.1))
            have HQ := Aside0.mk (show (x1 == x2) = false from beq_eq_false_iff_ne.2 (fun e => HNE.out (by rw [← k1.2.1, ← k2.2.1, e])))
            have g2 : (g == g) = true := beq_self_eq_true g
            have g3 : (h == h) = true := beq_self_eq_true h
            clear k1 k2 q4 q5
            go_upto_region 7 with fail
            have cD1 := pdecode_any A1 _ c1 x1 we2 (HF1.out.1.below HF2.out.2)
            rw [DX1.out.1, DX1.out.2.1, DX1.out.2.2] at cD1
            go_upto_region 8 with (go_at_call 31; refine cD1.mono ?_; rintro e wd1 ⟨⟨lf1, ⟨IA1, In1, Ic1⟩, ⟨KA1, Kn1, Kc1⟩⟩, is1, ks1, rfl, hD, hB⟩; (have HD1 := Aside0.mk (And.intro hD hB)); clear hD hB; simp only [nhv])
            clear cD1
            have hb := (Below.refl _ wd1).alloc (Nat.le_refl _) (.cells #[.bool lf1, .slice IA1 In1 Ic1, .slice KA1 Kn1 Kc1] 69)
            have HM1 := Aside0.mk (And.intro (heap_alloc_new wd1 (.cells #[.bool lf1, .slice IA1 In1 Ic1, .slice KA1 Kn1 Kc1] 69)) (And.intro (HD1.out.1.below hb) (below_then HD1.out.2 HD1.out.2.size hb)))
            obtain ⟨wm1, hwm⟩ : ∃ X, wd1.alloc (.cells #[.bool lf1, .slice IA1 In1 Ic1, .slice KA1 Kn1 Kc1] 69) = X := ⟨_, rfl⟩
            obtain ⟨M1, hM⟩ : ∃ X, wd1.heap.size = X := ⟨_, rfl⟩
            rw [hwm, hM] at HM1
            rw [hwm, hM]
            clear hb hwm hM

            have hb2 := HF2.out.1.below HM1.out.2.2
            have cD2 := pdecode_any A2 _ c2 x2 wm1 hb2
            rw [DX2.out.1, DX2.out.2.1, DX2.out.2.2] at cD2
            go_upto_region 9 with (go_at_call 31; refine cD2.mono ?_; rintro e wd2 ⟨⟨lf2, ⟨IA2, In2, Ic2⟩, ⟨KA2, Kn2, Kc2⟩⟩, is2, ks2, rfl, hD, hB⟩; (have HD2 := Aside0.mk (And.intro hD hB)); clear hD hB; simp only [nhv])
            clear cD2
            have hb := (Below.refl _ wd2).alloc (Nat.le_refl _) (.cells #[.bool lf2, .slice IA2 In2 Ic2, .slice KA2 Kn2 Kc2] 69)
            have HM2 := Aside0.mk (And.intro (heap_alloc_new wd2 (.cells #[.bool lf2, .slice IA2 In2 Ic2, .slice KA2 Kn2 Kc2] 69)) (And.intro (HD2.out.1.below hb) (below_then HD2.out.2 HD2.out.2.size hb)))
            obtain ⟨wm2, hwm⟩ : ∃ X, wd2.alloc (.cells #[.bool lf2, .slice IA2 In2 Ic2, .slice KA2 Kn2 Kc2] 69) = X := ⟨_, rfl⟩
            obtain ⟨M2, hM⟩ : ∃ X, wd2.heap.size = X := ⟨_, rfl⟩
            rw [hwm, hM] at HM2
            rw [hwm, hM]
            clear hb hwm hM

            have hr1 := (HM2.out.2.2.block _ (Array.getElem?_eq_some_iff.1 HM1.out.1).1).trans HM1.out.1
            have HT := Aside0.mk (And.intro hr1 (And.intro (HM1.out.2.1.below HM2.out.2.2) (And.intro ((HF1.out.1.below HF2.out.2).below (below_then HM1.out.2.2 HM1.out.2.2.size HM2.out.2.2)) (And.intro (HF2.out.1.below (below_then HM1.out.2.2 HM1.out.2.2.size HM2.out.2.2)) (below_then HB2.out HB2.out.size (below_then HM1.out.2.2 HM1.out.2.2.size HM2.out.2.2))))))
            clear hb2 hr1
            go_wp2_with (first
              | (go_at_call 24; refine (alive07_any _).mono ?_; rintro e w5 ⟨rfl, hB⟩; (have H5 := Aside0.mk hB); (obtain ⟨u0, u1, u2⟩ := nd_cells ((hB.block _ (Array.getElem?_eq_some_iff.1 HT.out.1).1).trans HT.out.1)); (obtain ⟨z0, z1, z2⟩ := nd_cells ((hB.block _ (Array.getElem?_eq_some_iff.1 HM2.out.1).1).trans HM2.out.1)); clear hB)
              | (go_at_call 34; refine (nsame_any ⟨lf1, (IA1, In1, Ic1), (KA1, Kn1, Kc1)⟩ ⟨lf2, (IA2, In2, Ic2), (KA2, Kn2, Kc2)⟩ is1 is2 ks1 ks2 v w5 (HT.out.2.1.below H5.out) (HM2.out.2.1.below H5.out)).mono ?_; rintro e w6 ⟨rfl, hB⟩; (have H6 := Aside0.mk (below_then H5.out H5.out.size hB)); clear hB)
              | (go_at_call 20; refine (equal8_any _ _ _ x1 _ _ _ x2 w6 (HT.out.2.2.1.below H6.out) (HT.out.2.2.2.1.below H6.out)).mono ?_; rintro e w7 ⟨rfl, rfl⟩; rw [HQ.out]))
            go_ret
            exact ⟨rfl, below_then HT.out.2.2.2.2 HT.out.2.2.2.2.size H6.out⟩
end Go.Proofs.Ytbjfklgmbeaaoaa
