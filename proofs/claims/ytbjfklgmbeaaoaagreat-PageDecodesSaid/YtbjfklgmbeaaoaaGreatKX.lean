/- The walk of PageDecodes. -/
import Derived.Test.YtbjfklgmbeaaoaaGreatKW
set_option linter.unusedVariables false
set_option linter.unusedSimpArgs false
namespace Go.Proofs.YtbjfklgmbeaaoaaGreat
open Go.RowKit

set_option maxHeartbeats 8000000 in
set_option maxRecDepth 100000 in
theorem pageDecodes_any (A : Option Addr) (n c : Nat) (xs : List UInt8) (w : World) (hb : Bs w A n c xs) :
    Calls Tryz.prog 3 #[.slice A n c] w fun e w' => e = .returned (.bool true) ∧ Below w.heap.size w w' := by
  have HX := Aside0.mk hb
  have hlim := hb.lim
  have hlen := hb.len
  clear hb
  by_cases q : n ≤ 2000
  case neg =>
    have d1 : decide ((n : Int) ≤ 2000) = false := decide_eq_false (by omega)
    clear q
    go_enter Tryz.func3, Tryz.ntmps3
    go_wp2_with (first
      | (go_at_call 4; refine (few7_any A n c _).mono ?_; rintro e w0 ⟨rfl, rfl⟩; rw [d1])
      | (go_at_call 5; refine (alive07_any _).mono ?_; rintro e w2 ⟨rfl, hB⟩; (have H2 := Aside0.mk hB); clear hB))
    go_ret
    exact ⟨rfl, H2.out⟩
  case pos =>
    have d1 : decide ((n : Int) ≤ 2000) = true := decide_eq_true (by omega)
    have HIN := Aside0.mk (fun h : decE xs = 0 => dec_in h)
    have HGG := Aside0.mk (show (decE xs = 0 → decG xs = hG xs ∧ decV xs = (dN xs).1) ∧ (decE xs ≠ 0 → decG xs = 0) from ⟨fun h => ⟨by unfold decG; rw [if_pos h], by unfold decV; rw [if_pos h]⟩, fun h => by unfold decG; rw [if_neg h]⟩)
    obtain ⟨ev, hev⟩ : ∃ x, decE xs = x := ⟨_, rfl⟩
    obtain ⟨gv, hgv⟩ : ∃ x, decG xs = x := ⟨_, rfl⟩
    obtain ⟨vv, hvv⟩ : ∃ x, decV xs = x := ⟨_, rfl⟩
    have e1 : (gv != gv) = false := bne_self_eq_false _
    have e2 : (ev != ev) = false := bne_self_eq_false _
    clear q
    by_cases q : ev = 0
    case neg =>
      have HG0 := Aside0.mk (show gv = 0 by rw [← hgv]; exact HGG.out.2 (by rw [hev]; exact q))
      have e3 : (ev != 0) = true := bne_iff_ne.2 q
      have e4 : (gv == 0) = true := beq_iff_eq.2 HG0.out
      clear q hlen
      go_enter Tryz.func3, Tryz.ntmps3
      go_upto_region 3 with (go_at_call 4; refine (few7_any A n c _).mono ?_; rintro e w0 ⟨rfl, rfl⟩; rw [d1])
      have cD := pdecode_any A n c xs w HX.out
      have cR : ∀ W, Bs W A n c xs → _ := fun W hW => rdecode_any A n c xs W hW
      rw [hgv, hev, hvv] at cD
      simp only [hgv, hev, hvv] at cR
      go_upto_region 4 with (go_at_call 6; refine cD.mono ?_; rintro e w1 ⟨⟨lf1, ⟨IA1, In1, Ic1⟩, ⟨KA1, Kn1, Kc1⟩⟩, is1, ks1, rfl, hD, hB⟩; (have H1 := Aside0.mk (And.intro hD hB)); clear hD hB; simp only [nhv])
      clear cD
      have hb := (Below.refl _ w1).alloc (Nat.le_refl _) (.cells #[.bool lf1, .slice IA1 In1 Ic1, .slice KA1 Kn1 Kc1] 28)
      have hA := And.intro (heap_alloc_new w1 (.cells #[.bool lf1, .slice IA1 In1 Ic1, .slice KA1 Kn1 Kc1] 28)) (And.intro (H1.out.1.below hb) (below_then H1.out.2 H1.out.2.size hb))
      obtain ⟨w2, hw2⟩ : ∃ X, w1.alloc (.cells #[.bool lf1, .slice IA1 In1 Ic1, .slice KA1 Kn1 Kc1] 28) = X := ⟨_, rfl⟩
      obtain ⟨M, hM⟩ : ∃ X, w1.heap.size = X := ⟨_, rfl⟩
      rw [hw2] at hA
      have H2 := Aside0.mk (show w2.heap[M]? = some (.cells #[.bool lf1, .slice IA1 In1 Ic1, .slice KA1 Kn1 Kc1] 28) ∧ Nd w2 ⟨lf1, (IA1, In1, Ic1), (KA1, Kn1, Kc1)⟩ is1 ks1 vv ∧ Below w.heap.size w w2 from ⟨by rw [← hM]; exact hA.1, hA.2.1, hA.2.2⟩)
      rw [hw2, hM]
      clear hb hA hw2 hM
      go_upto_region 5 with (go_at_call 7; refine (cR w2 (HX.out.below H2.out.2.2)).mono ?_; rintro e w3 ⟨⟨lf2, ⟨IA2, In2, Ic2⟩, ⟨KA2, Kn2, Kc2⟩⟩, is2, ks2, rfl, hD, hB⟩; (have H3 := Aside0.mk (And.intro hD hB)); clear hD hB; simp only [nhv])
      clear cR
      have hb := (Below.refl _ w3).alloc (Nat.le_refl _) (.cells #[.bool lf2, .slice IA2 In2 Ic2, .slice KA2 Kn2 Kc2] 35)
      have hbb := below_then H3.out.2 H3.out.2.size hb
      have hA := And.intro (heap_alloc_new w3 (.cells #[.bool lf2, .slice IA2 In2 Ic2, .slice KA2 Kn2 Kc2] 35)) (And.intro (H3.out.1.below hb) hbb)
      obtain ⟨w4, hw4⟩ : ∃ X, w3.alloc (.cells #[.bool lf2, .slice IA2 In2 Ic2, .slice KA2 Kn2 Kc2] 35) = X := ⟨_, rfl⟩
      obtain ⟨N, hN⟩ : ∃ X, w3.heap.size = X := ⟨_, rfl⟩
      rw [hw4] at hA
      have H4 := Aside0.mk (show w4.heap[N]? = some (.cells #[.bool lf2, .slice IA2 In2 Ic2, .slice KA2 Kn2 Kc2] 35) ∧ Nd w4 ⟨lf2, (IA2, In2, Ic2), (KA2, Kn2, Kc2)⟩ is2 ks2 vv ∧ Below w2.heap.size w2 w4 from ⟨by rw [← hN]; exact hA.1, hA.2.1, hA.2.2⟩)
      rw [hw4, hN]
      clear hb hbb hA hw4 hN
      have H5 := Aside0.mk (And.intro ((H4.out.2.2.block _ (Array.getElem?_eq_some_iff.1 H2.out.1).1).trans H2.out.1) (And.intro (H2.out.2.1.below H4.out.2.2) (below_then H2.out.2.2 H2.out.2.2.size H4.out.2.2)))
      obtain ⟨u0, hu0⟩ : ∃ X, w4.drew = X := ⟨_, rfl⟩
      have HBd := Aside0.mk (show Below w4.heap.size w4 u0 by rw [← hu0]; exact below_drew (Below.refl _ _))
      have HS := Aside0.mk (show ∀ X : World, Below w4.heap.size w4 X → X.cell? ⟨M, 0, none⟩ = some (.bool lf1) ∧ X.cell? ⟨M, 1, none⟩ = some (.slice IA1 In1 Ic1) ∧ X.cell? ⟨M, 2, none⟩ = some (.slice KA1 Kn1 Kc1) ∧ X.cell? ⟨N, 0, none⟩ = some (.bool lf2) ∧ X.cell? ⟨N, 1, none⟩ = some (.slice IA2 In2 Ic2) ∧ X.cell? ⟨N, 2, none⟩ = some (.slice KA2 Kn2 Kc2) from fun X hX => by
        obtain ⟨a0, a1, a2⟩ := nd_cells ((hX.block _ (Array.getElem?_eq_some_iff.1 H5.out.1).1).trans H5.out.1)
        obtain ⟨b0, b1, b2⟩ := nd_cells ((hX.block _ (Array.getElem?_eq_some_iff.1 H4.out.1).1).trans H4.out.1)
        exact ⟨a0, a1, a2, b0, b1, b2⟩)
      have cL : ∀ X, Nd X ⟨lf1, (IA1, In1, Ic1), (KA1, Kn1, Kc1)⟩ is1 ks1 vv → _ := fun X hX => lold_any ⟨lf1, (IA1, In1, Ic1), (KA1, Kn1, Kc1)⟩ is1 ks1 vv X hX
      simp only [nhv] at cL
      refine wp_region_M (fun j => decide (j < 15)) (fun w' => w'.cell? ⟨M, 0, none⟩ = some (.bool lf1) ∧ w'.cell? ⟨M, 1, none⟩ = some (.slice IA1 In1 Ic1) ∧ w'.cell? ⟨M, 2, none⟩ = some (.slice KA1 Kn1 Kc1) ∧ w'.cell? ⟨N, 0, none⟩ = some (.bool lf2) ∧ w'.cell? ⟨N, 1, none⟩ = some (.slice IA2 In2 Ic2) ∧ w'.cell? ⟨N, 2, none⟩ = some (.slice KA2 Kn2 Kc2)) (by kernel_rfl) ?_
      rw [hu0]
      clear hu0
      refine wpAnyM_take (i := 0) (v := ?_) (by simp only [List.getElem?_toArray, List.getElem?_cons_succ, List.getElem?_cons_zero]; rfl) (by kernel_rfl) (by kernel_rfl) (by kernel_rfl) (by kernel_rfl) (by exact fun _ _ _ h => h) (Or.inl ⟨by rfl, ?_⟩) (HS.out _ HBd.out) ?_
      rotate_left
      · (intro w' hSw; (try dsimp only at hSw); go_simp; try with_reducible rfl)
      try simp only [Act.put, List.setIfInBounds_toArray, List.set_cons_zero, List.set_cons_succ]
      refine wpAnyM_take (i := 1) (v := ?_) (by simp only [List.getElem?_toArray, List.getElem?_cons_succ, List.getElem?_cons_zero]; rfl) (by kernel_rfl) (by kernel_rfl) (by kernel_rfl) (by kernel_rfl) (by exact fun _ _ _ h => h) (Or.inl ⟨by rfl, ?_⟩) (HS.out _ HBd.out) ?_
      rotate_left
      · (intro w' hSw; (try dsimp only at hSw); go_simp; try with_reducible rfl)
      try simp only [Act.put, List.setIfInBounds_toArray, List.set_cons_zero, List.set_cons_succ]
      refine wpAnyM_take (i := 2) (v := ?_) (by simp only [List.getElem?_toArray, List.getElem?_cons_succ, List.getElem?_cons_zero]; rfl) (by kernel_rfl) (by kernel_rfl) (by kernel_rfl) (by kernel_rfl) (by exact fun _ _ _ h => h) (Or.inl ⟨by rfl, ?_⟩) (HS.out _ HBd.out) ?_
      rotate_left
      · (intro w' hSw; (try dsimp only at hSw); go_simp; try with_reducible rfl)
      try simp only [Act.put, List.setIfInBounds_toArray, List.set_cons_zero, List.set_cons_succ]
      refine wpAnyM_take (i := 3) (v := ?_) (by simp only [List.getElem?_toArray, List.getElem?_cons_succ, List.getElem?_cons_zero]; rfl) (by kernel_rfl) (by kernel_rfl) (by kernel_rfl) (by kernel_rfl) (by exact fun _ _ _ h => h) (Or.inl ⟨by rfl, ?_⟩) (HS.out _ HBd.out) ?_
      rotate_left
      · (intro w' hSw; (try dsimp only at hSw); go_simp; try with_reducible rfl)
      try simp only [Act.put, List.setIfInBounds_toArray, List.set_cons_zero, List.set_cons_succ]
      refine wpAnyM_take (i := 4) (v := ?_) (by simp only [List.getElem?_toArray, List.getElem?_cons_succ, List.getElem?_cons_zero]; rfl) (by kernel_rfl) (by kernel_rfl) (by kernel_rfl) (by kernel_rfl) (by exact fun _ _ _ h => h) (Or.inl ⟨by rfl, ?_⟩) (HS.out _ HBd.out) ?_
      rotate_left
      · (intro w' hSw; (try dsimp only at hSw); go_simp; try with_reducible rfl)
      try simp only [Act.put, List.setIfInBounds_toArray, List.set_cons_zero, List.set_cons_succ]
      refine wpAnyM_take (i := 5) (v := ?_) (by simp only [List.getElem?_toArray, List.getElem?_cons_succ, List.getElem?_cons_zero]; rfl) (by kernel_rfl) (by kernel_rfl) (by kernel_rfl) (by kernel_rfl) (by exact fun _ _ _ h => h) (Or.inl ⟨by rfl, ?_⟩) (HS.out _ HBd.out) ?_
      rotate_left
      · (intro w' hSw; (try dsimp only at hSw); go_simp; try with_reducible rfl)
      try simp only [Act.put, List.setIfInBounds_toArray, List.set_cons_zero, List.set_cons_succ]
      refine wpAnyM_take (i := 6) (v := ?_) (by simp only [List.getElem?_toArray, List.getElem?_cons_succ, List.getElem?_cons_zero]; rfl) (by kernel_rfl) (by kernel_rfl) (by kernel_rfl) (by kernel_rfl) (by exact fun _ _ _ h => h) (Or.inl ⟨by rfl, ?_⟩) (HS.out _ HBd.out) ?_
      rotate_left
      · (intro w' hSw; (try dsimp only at hSw); go_simp; try with_reducible rfl)
      try simp only [Act.put, List.setIfInBounds_toArray, List.set_cons_zero, List.set_cons_succ]
      refine wpAnyM_take (i := 7) (v := ?_) (by simp only [List.getElem?_toArray, List.getElem?_cons_succ, List.getElem?_cons_zero]; rfl) (by kernel_rfl) (by kernel_rfl) (by kernel_rfl) (by kernel_rfl) (by exact fun _ _ _ h => h) (Or.inl ⟨by rfl, ?_⟩) (HS.out _ HBd.out) ?_
      rotate_left
      · (intro w' hSw; (try dsimp only at hSw); go_simp; try with_reducible rfl)
      try simp only [Act.put, List.setIfInBounds_toArray, List.set_cons_zero, List.set_cons_succ]
      refine wpAnyM_take (i := 8) (v := ?_) (by simp only [List.getElem?_toArray, List.getElem?_cons_succ, List.getElem?_cons_zero]; rfl) (by kernel_rfl) (by kernel_rfl) (by kernel_rfl) (by kernel_rfl) (by exact fun _ _ _ h => h) (Or.inl ⟨by rfl, ?_⟩) (HS.out _ HBd.out) ?_
      rotate_left
      · (intro w' hSw; (try dsimp only at hSw); go_simp; try with_reducible rfl)
      try simp only [Act.put, List.setIfInBounds_toArray, List.set_cons_zero, List.set_cons_succ]
      refine wpAnyM_take (i := 9) (v := ?_) (by simp only [List.getElem?_toArray, List.getElem?_cons_succ, List.getElem?_cons_zero]; rfl) (by kernel_rfl) (by kernel_rfl) (by kernel_rfl) (by kernel_rfl) (by exact fun _ _ _ h => h) (Or.inl ⟨by rfl, ?_⟩) (HS.out _ HBd.out) ?_
      rotate_left
      · (intro w' hSw; (try dsimp only at hSw); go_simp; try with_reducible rfl)
      try simp only [Act.put, List.setIfInBounds_toArray, List.set_cons_zero, List.set_cons_succ]
      refine wpAnyM_take (i := 11) (v := ?_) (by simp only [List.getElem?_toArray, List.getElem?_cons_succ, List.getElem?_cons_zero]; rfl) (by kernel_rfl) (by kernel_rfl) (by kernel_rfl) (by kernel_rfl) (by exact fun _ _ _ h => h) (Or.inl ⟨by rfl, ?_⟩) (HS.out _ HBd.out) ?_
      rotate_left
      · (intro w' hSw; (try dsimp only at hSw); go_simp; try with_reducible rfl)
      try simp only [Act.put, List.setIfInBounds_toArray, List.set_cons_zero, List.set_cons_succ]
      refine wpAnyM_one (i := 10) (by kernel_rfl) (by simp only [List.getElem?_toArray, List.getElem?_cons_succ, List.getElem?_cons_zero]; rfl) ?_
      go_wp2_with (go_at_call 9; refine (cL u0 (H5.out.2.1.below HBd.out)).mono ?_; rintro e u2 ⟨⟨lf4, ⟨IA4, In4, Ic4⟩, ⟨KA4, Kn4, Kc4⟩⟩, is4, ks4, rfl, hD, hB⟩; (have H7 := Aside0.mk (And.intro hD (below_then HBd.out HBd.out.size hB))); clear hD hB; simp only [nhv])
      refine ⟨HS.out _ H7.out.2, ?_⟩
      try simp only [Act.put, List.setIfInBounds_toArray, List.set_cons_zero, List.set_cons_succ]
      clear cL
      have cQ := r6same_any ⟨lf4, (IA4, In4, Ic4), (KA4, Kn4, Kc4)⟩ ⟨lf2, (IA2, In2, Ic2), (KA2, Kn2, Kc2)⟩ is4 is2 ks4 ks2 vv u2 H7.out.1 (H4.out.2.1.below H7.out.2)
      simp only [nhv] at cQ
      refine wpAnyM_one (i := 12) (by kernel_rfl) (by simp only [List.getElem?_toArray, List.getElem?_cons_succ, List.getElem?_cons_zero]; rfl) ?_
      go_wp2_with (go_at_call 8; refine cQ.mono ?_; rintro e u3 ⟨rfl, hB⟩; (have H8 := Aside0.mk (below_then H7.out.2 H7.out.2.size hB)); clear hB)
      refine ⟨HS.out _ H8.out, ?_⟩
      try simp only [Act.put, List.setIfInBounds_toArray, List.set_cons_zero, List.set_cons_succ]
      refine wpAnyM_take (i := 13) (v := ?_) (by simp only [List.getElem?_toArray, List.getElem?_cons_succ, List.getElem?_cons_zero]; rfl) (by kernel_rfl) (by kernel_rfl) (by kernel_rfl) (by kernel_rfl) (by exact fun _ _ _ h => h) (Or.inl ⟨by rfl, ?_⟩) (HS.out _ H8.out) ?_
      rotate_left
      · (intro w' hSw; (try dsimp only at hSw); go_simp; try with_reducible rfl)
      try simp only [Act.put, List.setIfInBounds_toArray, List.set_cons_zero, List.set_cons_succ]
      refine wpAnyM_take (i := 14) (v := ?_) (by simp only [List.getElem?_toArray, List.getElem?_cons_succ, List.getElem?_cons_zero]; rfl) (by kernel_rfl) (by kernel_rfl) (by kernel_rfl) (by kernel_rfl) (by exact fun _ _ _ h => h) (Or.inl ⟨by rfl, ?_⟩) (HS.out _ H8.out) ?_
      rotate_left
      · (intro w' hSw; (try dsimp only at hSw); go_simp; try with_reducible rfl)
      try simp only [Act.put, List.setIfInBounds_toArray, List.set_cons_zero, List.set_cons_succ]
      refine wpAnyM_done (by kernel_rfl) ?_ _
      have H9 := Aside0.mk (below_then H5.out.2.2 H5.out.2.2.size H8.out)
      go_wp2_with (go_at_call 5; refine (alive07_any _).mono ?_; rintro e u4 ⟨rfl, hB⟩; (have H10 := Aside0.mk (below_then H9.out H9.out.size hB)); clear hB)
      go_ret
      exact ⟨rfl, H10.out⟩
    case pos =>
      have HP := Aside0.mk (show pgE gv vv = 0 ∧ pgB gv vv = xs ∧ xs.length = 256 by
        have h0 := hev.trans q
        have h1 := HIN.out h0
        have h2 := HGG.out.1 h0
        rw [← hgv, ← hvv, h2.1, h2.2]
        exact ⟨h1.2.2.2.2.2.1, h1.2.2.2.2.2.2, h1.1⟩)
      obtain rfl : n = 256 := by have := HP.out.2.2; omega
      subst q
      have e3 : ((0 : Int) != 0) = false := by decide
      have HEQ := Aside0.mk (show (xs == xs) = true from beq_self_eq_true xs)
      clear hlen
      go_enter Tryz.func3, Tryz.ntmps3
      go_upto_region 3 with (go_at_call 4; refine (few7_any A 256 c _).mono ?_; rintro e w0 ⟨rfl, rfl⟩; rw [d1])
      have cD := pdecode_any A 256 c xs w HX.out
      have cR : ∀ W, Bs W A 256 c xs → _ := fun W hW => rdecode_any A 256 c xs W hW
      rw [hgv, hev, hvv] at cD
      simp only [hgv, hev, hvv] at cR
      go_upto_region 4 with (go_at_call 6; refine cD.mono ?_; rintro e w1 ⟨⟨lf1, ⟨IA1, In1, Ic1⟩, ⟨KA1, Kn1, Kc1⟩⟩, is1, ks1, rfl, hD, hB⟩; (have H1 := Aside0.mk (And.intro hD hB)); clear hD hB; simp only [nhv])
      clear cD
      have hb := (Below.refl _ w1).alloc (Nat.le_refl _) (.cells #[.bool lf1, .slice IA1 In1 Ic1, .slice KA1 Kn1 Kc1] 28)
      have hA := And.intro (heap_alloc_new w1 (.cells #[.bool lf1, .slice IA1 In1 Ic1, .slice KA1 Kn1 Kc1] 28)) (And.intro (H1.out.1.below hb) (below_then H1.out.2 H1.out.2.size hb))
      obtain ⟨w2, hw2⟩ : ∃ X, w1.alloc (.cells #[.bool lf1, .slice IA1 In1 Ic1, .slice KA1 Kn1 Kc1] 28) = X := ⟨_, rfl⟩
      obtain ⟨M, hM⟩ : ∃ X, w1.heap.size = X := ⟨_, rfl⟩
      rw [hw2] at hA
      have H2 := Aside0.mk (show w2.heap[M]? = some (.cells #[.bool lf1, .slice IA1 In1 Ic1, .slice KA1 Kn1 Kc1] 28) ∧ Nd w2 ⟨lf1, (IA1, In1, Ic1), (KA1, Kn1, Kc1)⟩ is1 ks1 vv ∧ Below w.heap.size w w2 from ⟨by rw [← hM]; exact hA.1, hA.2.1, hA.2.2⟩)
      rw [hw2, hM]
      clear hb hA hw2 hM
      go_upto_region 5 with (go_at_call 7; refine (cR w2 (HX.out.below H2.out.2.2)).mono ?_; rintro e w3 ⟨⟨lf2, ⟨IA2, In2, Ic2⟩, ⟨KA2, Kn2, Kc2⟩⟩, is2, ks2, rfl, hD, hB⟩; (have H3 := Aside0.mk (And.intro hD hB)); clear hD hB; simp only [nhv])
      clear cR
      have hb := (Below.refl _ w3).alloc (Nat.le_refl _) (.cells #[.bool lf2, .slice IA2 In2 Ic2, .slice KA2 Kn2 Kc2] 35)
      have hbb := below_then H3.out.2 H3.out.2.size hb
      have hA := And.intro (heap_alloc_new w3 (.cells #[.bool lf2, .slice IA2 In2 Ic2, .slice KA2 Kn2 Kc2] 35)) (And.intro (H3.out.1.below hb) hbb)
      obtain ⟨w4, hw4⟩ : ∃ X, w3.alloc (.cells #[.bool lf2, .slice IA2 In2 Ic2, .slice KA2 Kn2 Kc2] 35) = X := ⟨_, rfl⟩
      obtain ⟨N, hN⟩ : ∃ X, w3.heap.size = X := ⟨_, rfl⟩
      rw [hw4] at hA
      have H4 := Aside0.mk (show w4.heap[N]? = some (.cells #[.bool lf2, .slice IA2 In2 Ic2, .slice KA2 Kn2 Kc2] 35) ∧ Nd w4 ⟨lf2, (IA2, In2, Ic2), (KA2, Kn2, Kc2)⟩ is2 ks2 vv ∧ Below w2.heap.size w2 w4 from ⟨by rw [← hN]; exact hA.1, hA.2.1, hA.2.2⟩)
      rw [hw4, hN]
      clear hb hbb hA hw4 hN
      have H5 := Aside0.mk (And.intro ((H4.out.2.2.block _ (Array.getElem?_eq_some_iff.1 H2.out.1).1).trans H2.out.1) (And.intro (H2.out.2.1.below H4.out.2.2) (below_then H2.out.2.2 H2.out.2.2.size H4.out.2.2)))
      obtain ⟨u0, hu0⟩ : ∃ X, w4.drew = X := ⟨_, rfl⟩
      have HBd := Aside0.mk (show Below w4.heap.size w4 u0 by rw [← hu0]; exact below_drew (Below.refl _ _))
      have HS := Aside0.mk (show ∀ X : World, Below w4.heap.size w4 X → X.cell? ⟨M, 0, none⟩ = some (.bool lf1) ∧ X.cell? ⟨M, 1, none⟩ = some (.slice IA1 In1 Ic1) ∧ X.cell? ⟨M, 2, none⟩ = some (.slice KA1 Kn1 Kc1) ∧ X.cell? ⟨N, 0, none⟩ = some (.bool lf2) ∧ X.cell? ⟨N, 1, none⟩ = some (.slice IA2 In2 Ic2) ∧ X.cell? ⟨N, 2, none⟩ = some (.slice KA2 Kn2 Kc2) from fun X hX => by
        obtain ⟨a0, a1, a2⟩ := nd_cells ((hX.block _ (Array.getElem?_eq_some_iff.1 H5.out.1).1).trans H5.out.1)
        obtain ⟨b0, b1, b2⟩ := nd_cells ((hX.block _ (Array.getElem?_eq_some_iff.1 H4.out.1).1).trans H4.out.1)
        exact ⟨a0, a1, a2, b0, b1, b2⟩)
      have cL : ∀ X, Nd X ⟨lf1, (IA1, In1, Ic1), (KA1, Kn1, Kc1)⟩ is1 ks1 vv → _ := fun X hX => lold_any ⟨lf1, (IA1, In1, Ic1), (KA1, Kn1, Kc1)⟩ is1 ks1 vv X hX
      simp only [nhv] at cL
      refine wp_region_M (fun j => decide (j < 15)) (fun w' => w'.cell? ⟨M, 0, none⟩ = some (.bool lf1) ∧ w'.cell? ⟨M, 1, none⟩ = some (.slice IA1 In1 Ic1) ∧ w'.cell? ⟨M, 2, none⟩ = some (.slice KA1 Kn1 Kc1) ∧ w'.cell? ⟨N, 0, none⟩ = some (.bool lf2) ∧ w'.cell? ⟨N, 1, none⟩ = some (.slice IA2 In2 Ic2) ∧ w'.cell? ⟨N, 2, none⟩ = some (.slice KA2 Kn2 Kc2)) (by kernel_rfl) ?_
      rw [hu0]
      clear hu0
      refine wpAnyM_take (i := 0) (v := ?_) (by simp only [List.getElem?_toArray, List.getElem?_cons_succ, List.getElem?_cons_zero]; rfl) (by kernel_rfl) (by kernel_rfl) (by kernel_rfl) (by kernel_rfl) (by exact fun _ _ _ h => h) (Or.inl ⟨by rfl, ?_⟩) (HS.out _ HBd.out) ?_
      rotate_left
      · (intro w' hSw; (try dsimp only at hSw); go_simp; try with_reducible rfl)
      try simp only [Act.put, List.setIfInBounds_toArray, List.set_cons_zero, List.set_cons_succ]
      refine wpAnyM_take (i := 1) (v := ?_) (by simp only [List.getElem?_toArray, List.getElem?_cons_succ, List.getElem?_cons_zero]; rfl) (by kernel_rfl) (by kernel_rfl) (by kernel_rfl) (by kernel_rfl) (by exact fun _ _ _ h => h) (Or.inl ⟨by rfl, ?_⟩) (HS.out _ HBd.out) ?_
      rotate_left
      · (intro w' hSw; (try dsimp only at hSw); go_simp; try with_reducible rfl)
      try simp only [Act.put, List.setIfInBounds_toArray, List.set_cons_zero, List.set_cons_succ]
      refine wpAnyM_take (i := 2) (v := ?_) (by simp only [List.getElem?_toArray, List.getElem?_cons_succ, List.getElem?_cons_zero]; rfl) (by kernel_rfl) (by kernel_rfl) (by kernel_rfl) (by kernel_rfl) (by exact fun _ _ _ h => h) (Or.inl ⟨by rfl, ?_⟩) (HS.out _ HBd.out) ?_
      rotate_left
      · (intro w' hSw; (try dsimp only at hSw); go_simp; try with_reducible rfl)
      try simp only [Act.put, List.setIfInBounds_toArray, List.set_cons_zero, List.set_cons_succ]
      refine wpAnyM_take (i := 3) (v := ?_) (by simp only [List.getElem?_toArray, List.getElem?_cons_succ, List.getElem?_cons_zero]; rfl) (by kernel_rfl) (by kernel_rfl) (by kernel_rfl) (by kernel_rfl) (by exact fun _ _ _ h => h) (Or.inl ⟨by rfl, ?_⟩) (HS.out _ HBd.out) ?_
      rotate_left
      · (intro w' hSw; (try dsimp only at hSw); go_simp; try with_reducible rfl)
      try simp only [Act.put, List.setIfInBounds_toArray, List.set_cons_zero, List.set_cons_succ]
      refine wpAnyM_take (i := 4) (v := ?_) (by simp only [List.getElem?_toArray, List.getElem?_cons_succ, List.getElem?_cons_zero]; rfl) (by kernel_rfl) (by kernel_rfl) (by kernel_rfl) (by kernel_rfl) (by exact fun _ _ _ h => h) (Or.inl ⟨by rfl, ?_⟩) (HS.out _ HBd.out) ?_
      rotate_left
      · (intro w' hSw; (try dsimp only at hSw); go_simp; try with_reducible rfl)
      try simp only [Act.put, List.setIfInBounds_toArray, List.set_cons_zero, List.set_cons_succ]
      refine wpAnyM_take (i := 5) (v := ?_) (by simp only [List.getElem?_toArray, List.getElem?_cons_succ, List.getElem?_cons_zero]; rfl) (by kernel_rfl) (by kernel_rfl) (by kernel_rfl) (by kernel_rfl) (by exact fun _ _ _ h => h) (Or.inl ⟨by rfl, ?_⟩) (HS.out _ HBd.out) ?_
      rotate_left
      · (intro w' hSw; (try dsimp only at hSw); go_simp; try with_reducible rfl)
      try simp only [Act.put, List.setIfInBounds_toArray, List.set_cons_zero, List.set_cons_succ]
      refine wpAnyM_take (i := 6) (v := ?_) (by simp only [List.getElem?_toArray, List.getElem?_cons_succ, List.getElem?_cons_zero]; rfl) (by kernel_rfl) (by kernel_rfl) (by kernel_rfl) (by kernel_rfl) (by exact fun _ _ _ h => h) (Or.inl ⟨by rfl, ?_⟩) (HS.out _ HBd.out) ?_
      rotate_left
      · (intro w' hSw; (try dsimp only at hSw); go_simp; try with_reducible rfl)
      try simp only [Act.put, List.setIfInBounds_toArray, List.set_cons_zero, List.set_cons_succ]
      refine wpAnyM_take (i := 7) (v := ?_) (by simp only [List.getElem?_toArray, List.getElem?_cons_succ, List.getElem?_cons_zero]; rfl) (by kernel_rfl) (by kernel_rfl) (by kernel_rfl) (by kernel_rfl) (by exact fun _ _ _ h => h) (Or.inl ⟨by rfl, ?_⟩) (HS.out _ HBd.out) ?_
      rotate_left
      · (intro w' hSw; (try dsimp only at hSw); go_simp; try with_reducible rfl)
      try simp only [Act.put, List.setIfInBounds_toArray, List.set_cons_zero, List.set_cons_succ]
      refine wpAnyM_take (i := 8) (v := ?_) (by simp only [List.getElem?_toArray, List.getElem?_cons_succ, List.getElem?_cons_zero]; rfl) (by kernel_rfl) (by kernel_rfl) (by kernel_rfl) (by kernel_rfl) (by exact fun _ _ _ h => h) (Or.inl ⟨by rfl, ?_⟩) (HS.out _ HBd.out) ?_
      rotate_left
      · (intro w' hSw; (try dsimp only at hSw); go_simp; try with_reducible rfl)
      try simp only [Act.put, List.setIfInBounds_toArray, List.set_cons_zero, List.set_cons_succ]
      refine wpAnyM_take (i := 9) (v := ?_) (by simp only [List.getElem?_toArray, List.getElem?_cons_succ, List.getElem?_cons_zero]; rfl) (by kernel_rfl) (by kernel_rfl) (by kernel_rfl) (by kernel_rfl) (by exact fun _ _ _ h => h) (Or.inl ⟨by rfl, ?_⟩) (HS.out _ HBd.out) ?_
      rotate_left
      · (intro w' hSw; (try dsimp only at hSw); go_simp; try with_reducible rfl)
      try simp only [Act.put, List.setIfInBounds_toArray, List.set_cons_zero, List.set_cons_succ]
      refine wpAnyM_take (i := 11) (v := ?_) (by simp only [List.getElem?_toArray, List.getElem?_cons_succ, List.getElem?_cons_zero]; rfl) (by kernel_rfl) (by kernel_rfl) (by kernel_rfl) (by kernel_rfl) (by exact fun _ _ _ h => h) (Or.inl ⟨by rfl, ?_⟩) (HS.out _ HBd.out) ?_
      rotate_left
      · (intro w' hSw; (try dsimp only at hSw); go_simp; try with_reducible rfl)
      try simp only [Act.put, List.setIfInBounds_toArray, List.set_cons_zero, List.set_cons_succ]
      refine wpAnyM_one (i := 10) (by kernel_rfl) (by simp only [List.getElem?_toArray, List.getElem?_cons_succ, List.getElem?_cons_zero]; rfl) ?_
      go_wp2_with (go_at_call 9; refine (cL u0 (H5.out.2.1.below HBd.out)).mono ?_; rintro e u2 ⟨⟨lf4, ⟨IA4, In4, Ic4⟩, ⟨KA4, Kn4, Kc4⟩⟩, is4, ks4, rfl, hD, hB⟩; (have H7 := Aside0.mk (And.intro hD (below_then HBd.out HBd.out.size hB))); clear hD hB; simp only [nhv])
      refine ⟨HS.out _ H7.out.2, ?_⟩
      try simp only [Act.put, List.setIfInBounds_toArray, List.set_cons_zero, List.set_cons_succ]
      clear cL
      have cQ := r6same_any ⟨lf4, (IA4, In4, Ic4), (KA4, Kn4, Kc4)⟩ ⟨lf2, (IA2, In2, Ic2), (KA2, Kn2, Kc2)⟩ is4 is2 ks4 ks2 vv u2 H7.out.1 (H4.out.2.1.below H7.out.2)
      simp only [nhv] at cQ
      refine wpAnyM_one (i := 12) (by kernel_rfl) (by simp only [List.getElem?_toArray, List.getElem?_cons_succ, List.getElem?_cons_zero]; rfl) ?_
      go_wp2_with (go_at_call 8; refine cQ.mono ?_; rintro e u3 ⟨rfl, hB⟩; (have H8 := Aside0.mk (below_then H7.out.2 H7.out.2.size hB)); clear hB)
      refine ⟨HS.out _ H8.out, ?_⟩
      try simp only [Act.put, List.setIfInBounds_toArray, List.set_cons_zero, List.set_cons_succ]
      refine wpAnyM_take (i := 13) (v := ?_) (by simp only [List.getElem?_toArray, List.getElem?_cons_succ, List.getElem?_cons_zero]; rfl) (by kernel_rfl) (by kernel_rfl) (by kernel_rfl) (by kernel_rfl) (by exact fun _ _ _ h => h) (Or.inl ⟨by rfl, ?_⟩) (HS.out _ H8.out) ?_
      rotate_left
      · (intro w' hSw; (try dsimp only at hSw); go_simp; try with_reducible rfl)
      try simp only [Act.put, List.setIfInBounds_toArray, List.set_cons_zero, List.set_cons_succ]
      refine wpAnyM_take (i := 14) (v := ?_) (by simp only [List.getElem?_toArray, List.getElem?_cons_succ, List.getElem?_cons_zero]; rfl) (by kernel_rfl) (by kernel_rfl) (by kernel_rfl) (by kernel_rfl) (by exact fun _ _ _ h => h) (Or.inl ⟨by rfl, ?_⟩) (HS.out _ H8.out) ?_
      rotate_left
      · (intro w' hSw; (try dsimp only at hSw); go_simp; try with_reducible rfl)
      try simp only [Act.put, List.setIfInBounds_toArray, List.set_cons_zero, List.set_cons_succ]
      refine wpAnyM_done (by kernel_rfl) ?_ _
      have H9 := Aside0.mk (below_then H5.out.2.2 H5.out.2.2.size H8.out)
      have H11 := Aside0.mk (H5.out.2.1.below H8.out)
      have HM := Aside0.mk ((H8.out.block _ (Array.getElem?_eq_some_iff.1 H5.out.1).1).trans H5.out.1)
      have cE := pencode_any ⟨lf1, (IA1, In1, Ic1), (KA1, Kn1, Kc1)⟩ is1 ks1 vv gv u3 H11.out
      simp only [nhv] at cE
      rw [HP.out.1, HP.out.2.1, HP.out.2.2] at cE
      obtain ⟨y0, y1, y2⟩ := nd_cells HM.out
      go_wp2_with (first
        | (go_at_call 10; refine cE.mono ?_; rintro e u4 ⟨A5, c5, rfl, hO, hB⟩; (have H12 := Aside0.mk (And.intro hO.bs (below_then H9.out H9.out.size hB))); clear hO hB)
        | (go_at_call 5; refine (alive07_any _).mono ?_; rintro e u5 ⟨rfl, hB⟩; (have H13 := Aside0.mk (And.intro (H12.out.1.below hB) (below_then H12.out.2 H12.out.2.size hB))); clear hB)
        | (go_at_call 11; refine (equal8_any _ _ _ _ _ _ _ _ u5 H13.out.1 (HX.out.below H13.out.2)).mono ?_; rintro e u6 ⟨rfl, rfl⟩; rw [HEQ.out]))
      go_ret
      exact ⟨rfl, H13.out.2⟩
end Go.Proofs.YtbjfklgmbeaaoaaGreat
