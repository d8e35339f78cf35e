/- The walk of page's own small example. -/
import Derived.Test.YtbjfklgmbeaaoaaGreatKI
set_option linter.unusedVariables false
set_option linter.unusedSimpArgs false
namespace Go.Proofs.YtbjfklgmbeaaoaaGreat
open Go.RowKit

theorem rc_lit4 {W : World} (qs : List IH) (n : Nat) (hn : qs.length = n) (hl : n ≤ 1000000000) (C : Array Value) (TT : TypeId) (hC : C = (ihv qs).toArray) : Rc (W.alloc (.cells C TT)) 4 (some ⟨W.heap.size, 0, none⟩) n n (ihv qs) := by
  subst hC
  refine ⟨by rw [ihv_len, hn], Nat.le_refl _, by omega, hl, ihv_one qs, fun _ => ⟨_, rfl, fun j u hu => ?_⟩⟩
  rw [add_plain, cell_of_row _ _ _ _ _ _ (heap_alloc_new W _)]
  simpa using hu
theorem its_one {W : World} {A1 A2 : Option Addr} {c1 c2 n1 n2 : Nat} {x y : List UInt8} {s r : Int} (h1 : Bs W A1 n1 c1 x) (h2 : Bs W A2 n2 c2 y) : Its W [⟨(A1, n1, c1), (A2, n2, c2), s, r⟩] [⟨x, y, s, r⟩] :=
  ⟨rfl, fun j p hj => by
    cases j with
    | zero => injection hj with hj; subst hj; exact ⟨_, rfl, h1, h2, rfl, rfl⟩
    | succ j => simp at hj⟩
set_option maxHeartbeats 8000000 in
set_option maxRecDepth 100000 in
theorem alive07_any (w : World) : Calls Tryz.prog 5 #[] w fun e w' => e = .returned (.bool true) ∧ Below w.heap.size w w' := by
  have hb1 := (Bs.lit w w.heap.size rfl #[.int .u8 97] 5 (1, 2) 1 1 [97] rfl rfl (by omega) (by omega) (by omega)).alloc (.cells #[.int .u8 98] 5 (1, 2))
  have hb2 := Bs.lit (w.alloc (.cells #[.int .u8 97] 5 (1, 2))) (w.heap.size + 1) (by simp) #[.int .u8 98] 5 (1, 2) 1 1 [98] rfl rfl (by omega) (by omega) (by omega)
  have HB := Aside0.mk (below_two w (.cells #[.int .u8 97] 5 (1, 2)) (.cells #[.int .u8 98] 5 (1, 2)))
  have cO := iof_any (some ⟨w.heap.size, 0, none⟩) 1 1 [97] (some ⟨w.heap.size + 1, 0, none⟩) 1 1 [98] _ hb1 hb2
  clear hb1 hb2
  have kc := fun W C n c => Lib.run_convert_bytes_const (P := Tryz.prog) W 22 5 C n c Tryz.underlying22 Tryz.underlying5
  have kc2 : ∀ (W : World) (o : Obj) (C : Array Value) (n c : Nat), (convert 22 22 (.slice (some ⟨W.heap.size + 1, 0, none⟩) n c)).run Tryz.prog ((W.alloc o).alloc (.cells C 5)) = .ok (.slice (some ⟨W.heap.size + 1, 0, none⟩) n c) ((W.alloc o).alloc (.cells C 5 (C.size, C.size + 1))) := fun W o C n c => by
    have := kc (W.alloc o) C n c
    simpa using this
  go_enter Tryz.func5, Tryz.ntmps5
  go_upto_region 2 with (go_at_call 12; refine cO.mono ?_; rintro e w1 ⟨A1, c1, A2, c2, rfl, hO1, hO2, hB⟩; (have H1 := Aside0.mk (And.intro hO1.bs (And.intro hO2.bs (below_then HB.out HB.out.size hB)))); clear hO1 hO2 hB)
  clear cO
  have hI := (Below.refl _ w1).alloc (Nat.le_refl _) (.cells #[.slice A1 1 c1, .slice A2 1 c2, .int .i64 0, .int .i64 0] 44)
  have hR := rc_lit4 (W := w1) [⟨(A1, 1, c1), (A2, 1, c2), 0, 0⟩] 1 rfl (by omega) #[.slice A1 1 c1, .slice A2 1 c2, .int .i64 0, .int .i64 0] 44 rfl
  have hN2 := (Below.refl _ (w1.alloc (.cells #[.slice A1 1 c1, .slice A2 1 c2, .int .i64 0, .int .i64 0] 44))).alloc (Nat.le_refl _) (.cells #[.bool true, .slice (some ⟨w1.heap.size, 0, none⟩) 1 1, .slice none 0 0] 28)
  have hT := below_then hI hI.size hN2
  have hrow := heap_alloc_new (w1.alloc (.cells #[.slice A1 1 c1, .slice A2 1 c2, .int .i64 0, .int .i64 0] 44)) (.cells #[.bool true, .slice (some ⟨w1.heap.size, 0, none⟩) 1 1, .slice none 0 0] 28)
  have hNd : Nd _ ⟨true, (some ⟨w1.heap.size, 0, none⟩, 1, 1), (none, 0, 0)⟩ [⟨(A1, 1, c1), (A2, 1, c2), 0, 0⟩] [] v7 := ⟨rfl, hR.below hN2, (Oc.nil _ 0 74 2).rc, rfl, rfl, its_one (H1.out.1.below hT) (H1.out.2.1.below hT), ⟨rfl, fun j p h => by simp at h⟩, by show (1 : Nat) ≤ 1000; omega, Nat.zero_le _⟩
  have hTT := below_then H1.out.2.2 H1.out.2.2.size hT
  rw [show (w1.alloc (.cells #[.slice A1 1 c1, .slice A2 1 c2, .int .i64 0, .int .i64 0] 44)).heap.size = w1.heap.size + 1 by simp] at hrow
  obtain ⟨w2, hw2⟩ : ∃ X, (w1.alloc (.cells #[.slice A1 1 c1, .slice A2 1 c2, .int .i64 0, .int .i64 0] 44)).alloc (.cells #[.bool true, .slice (some ⟨w1.heap.size, 0, none⟩) 1 1, .slice none 0 0] 28) = X := ⟨_, rfl⟩
  obtain ⟨N1, hN1⟩ : ∃ X, w1.heap.size + 1 = X := ⟨_, rfl⟩
  obtain ⟨N0, hN0⟩ : ∃ X, w1.heap.size = X := ⟨_, rfl⟩
  rw [hw2] at hNd hrow hTT
  rw [hN0] at hNd
  have H2 := Aside0.mk (And.intro hNd (And.intro (show w2.heap[N1]? = some (.cells #[.bool true, .slice (some ⟨N0, 0, none⟩) 1 1, .slice none 0 0] 28) by rw [← hN1, ← hN0]; exact hrow) hTT))
  rw [hw2, hN1, hN0]
  clear hI hR hN2 hT hrow hNd hTT hw2 hN1 hN0
  obtain ⟨y0, y1, y2⟩ := nd_cells H2.out.2.1
  have cE := pencode_any ⟨true, (some ⟨N0, 0, none⟩, 1, 1), (none, 0, 0)⟩ [⟨(A1, 1, c1), (A2, 1, c2), 0, 0⟩] [] v7 1 w2 H2.out.1
  simp only [nhv, pg7, pg7E, ex7_len] at cE
  go_upto_region 3 with (go_at_call 10; refine cE.mono ?_; rintro e w3 ⟨A3, c3, rfl, hO, hB⟩; (have H3 := Aside0.mk (And.intro hO.bs (And.intro (H2.out.1.below hB) (And.intro ((hB.block _ (Array.getElem?_eq_some_iff.1 H2.out.2.1).1).trans H2.out.2.1) (below_then H2.out.2.2 H2.out.2.2.size hB))))); clear hO hB)
  clear cE y0 y1 y2
  have cD := pdecode_any A3 256 c3 ex7 w3 H3.out.1
  rw [dec7.1, dec7.2.1, dec7.2.2] at cD
  go_upto_region 4 with (go_at_call 6; refine cD.mono ?_; rintro e w4 ⟨⟨lf, ⟨IA, In, Ic⟩, ⟨KA, Kn, Kc⟩⟩, is, ks, rfl, hD, hB⟩; (have H4 := Aside0.mk (And.intro hD (And.intro (H3.out.1.below hB) (And.intro (H3.out.2.1.below hB) (And.intro ((hB.block _ (Array.getElem?_eq_some_iff.1 H3.out.2.2.1).1).trans H3.out.2.2.1) (below_then H3.out.2.2.2 H3.out.2.2.2.size hB)))))); clear hD hB; simp only [nhv])
  clear cD
  have h5 := (Below.refl _ w4).alloc (Nat.le_refl _) (.cells #[.bool lf, .slice IA In Ic, .slice KA Kn Kc] 28)
  have H5 := Aside0.mk (And.intro (H4.out.1.below h5) (And.intro (H4.out.2.1.below h5) (And.intro (H4.out.2.2.1.below h5) (And.intro ((h5.block _ (Array.getElem?_eq_some_iff.1 H4.out.2.2.2.1).1).trans H4.out.2.2.2.1) (And.intro (below_then H4.out.2.2.2.2 H4.out.2.2.2.2.size h5) (heap_alloc_new w4 (.cells #[.bool lf, .slice IA In Ic, .slice KA Kn Kc] 28)))))))
  obtain ⟨w5, hw5⟩ : ∃ X, w4.alloc (.cells #[.bool lf, .slice IA In Ic, .slice KA Kn Kc] 28) = X := ⟨_, rfl⟩
  obtain ⟨N5, hN5⟩ : ∃ X, w4.heap.size = X := ⟨_, rfl⟩
  rw [hw5, hN5] at H5
  rw [hw5, hN5]
  clear h5 hw5 hN5
  have cH := headOf_any A3 256 c3 ex7 w5 H5.out.2.1
  rw [ex7_hV, ex7_h.1] at cH
  go_upto_region 5 with (go_at_call 13; refine cH.mono ?_; rintro e w6 ⟨rfl, hB⟩; (have H6 := Aside0.mk hB); clear hB)
  clear cH
  have h7 := below_then H6.out H6.out.size ((Below.refl _ w6).alloc (Nat.le_refl _) (.cells #[.int .i64 76, .int .i64 1, .int .i64 1, .int .i64 0] 47))
  have H7 := Aside0.mk (And.intro (H5.out.1.below h7) (And.intro (H5.out.2.1.below h7) (And.intro (H5.out.2.2.1.below h7) (And.intro ((h7.block _ (Array.getElem?_eq_some_iff.1 H5.out.2.2.2.1).1).trans H5.out.2.2.2.1) (And.intro (below_then H5.out.2.2.2.2.1 H5.out.2.2.2.2.1.size h7) (And.intro ((h7.block _ (Array.getElem?_eq_some_iff.1 H5.out.2.2.2.2.2).1).trans H5.out.2.2.2.2.2) (heap_alloc_new w6 (.cells #[.int .i64 76, .int .i64 1, .int .i64 1, .int .i64 0] 47))))))))
  obtain ⟨w7, hw7⟩ : ∃ X, w6.alloc (.cells #[.int .i64 76, .int .i64 1, .int .i64 1, .int .i64 0] 47) = X := ⟨_, rfl⟩
  obtain ⟨N7, hN7⟩ : ∃ X, w6.heap.size = X := ⟨_, rfl⟩
  rw [hw7, hN7] at H7
  rw [hw7, hN7]
  clear h7 hw7 hN7
  have o8 := Ow.lits (w := w7) (base := w7.heap.size) rfl (Nat.le_refl _) #[.int .u8 7] [7] rfl 1 rfl (by omega)
  have cW := wrap_any 79 3 2 9 (some ⟨w7.heap.size, 0, none⟩) 1 1 [7] _ o8.bs (by omega) (by omega)
  rw [show wrB 79 3 2 9 [7] = ex9 from rfl, wr7, ex9_len] at cW
  clear o8
  go_upto_region 6 with (go_at_call 14; refine cW.mono ?_; rintro e w8 ⟨A8, c8, rfl, hO, hB⟩; (have hB8 := below_then ((Below.refl _ w7).alloc (Nat.le_refl _) (.cells #[.int .u8 7] 5)) (by simp) hB); (have H8 := Aside0.mk (And.intro (hO.bs) hB8)); clear hO hB hB8)
  clear cW
  have H9 := Aside0.mk (And.intro (H7.out.1.below H8.out.2) (And.intro (H7.out.2.1.below H8.out.2) (And.intro (H7.out.2.2.1.below H8.out.2) (below_then H7.out.2.2.2.2.1 H7.out.2.2.2.2.1.size H8.out.2))))
  have hr1 := (H8.out.2.block _ (Array.getElem?_eq_some_iff.1 H7.out.2.2.2.1).1).trans H7.out.2.2.2.1
  have hr5 := (H8.out.2.block _ (Array.getElem?_eq_some_iff.1 H7.out.2.2.2.2.2.1).1).trans H7.out.2.2.2.2.2.1
  have hr7 := (H8.out.2.block _ (Array.getElem?_eq_some_iff.1 H7.out.2.2.2.2.2.2).1).trans H7.out.2.2.2.2.2.2
  have h15 := Ow.lits (w := w8) (base := w8.heap.size) rfl (Nat.le_refl _) #[.int .u8 76, .int .u8 1, .int .u8 1, .int .u8 0, .int .u8 0, .int .u8 0, .int .u8 0, .int .u8 0, .int .u8 1, .int .u8 0, .int .u8 1, .int .u8 0, .int .u8 97, .int .u8 98, .int .u8 0] [76, 1, 1, 0, 0, 0, 0, 0, 1, 0, 1, 0, 97, 98, 0] rfl 15 rfl (by omega)
  have hB15 := (Below.refl _ w8).alloc (Nat.le_refl _) (.cells #[.int .u8 76, .int .u8 1, .int .u8 1, .int .u8 0, .int .u8 0, .int .u8 0, .int .u8 0, .int .u8 0, .int .u8 1, .int .u8 0, .int .u8 1, .int .u8 0, .int .u8 97, .int .u8 98, .int .u8 0] 5)
  have hR := Aside0.mk (And.intro ((hB15.block _ (Array.getElem?_eq_some_iff.1 hr1).1).trans hr1) (And.intro ((hB15.block _ (Array.getElem?_eq_some_iff.1 hr5).1).trans hr5) ((hB15.block _ (Array.getElem?_eq_some_iff.1 hr7).1).trans hr7)))
  have hX := Aside0.mk (And.intro ((H9.out.2.1.below hB15).take 15 (by omega)) (And.intro h15.bs (And.intro (H9.out.1.below hB15) (And.intro (H9.out.2.2.1.below hB15) (And.intro (H8.out.1.below hB15) (below_then H9.out.2.2.2 H9.out.2.2.2.size hB15))))))
  have s1 := fun W => sl8_h W A3 256 c3 .i64 15 (by omega) (by have := H3.out.1.le; omega)
  have HEQ := Aside0.mk (show (ex7.take 15 == [76, 1, 1, 0, 0, 0, 0, 0, 1, 0, 1, 0, 97, 98, 0]) = true by decide +kernel)
  obtain ⟨y0, y1, y2⟩ := nd_cells hR.out.1
  obtain ⟨z0, z1, z2⟩ := nd_cells hR.out.2.1
  clear hr1 hr5 hr7 h15 hB15
  go_wp2_with (first
    | (go_at_call 11; refine (equal8_any _ _ _ _ _ _ _ _ _ hX.out.1 hX.out.2.1).mono ?_; rintro e w9 ⟨rfl, rfl⟩; rw [HEQ.out])
    | (go_at_call 15; refine (nsame_any ⟨true, (some ⟨N0, 0, none⟩, 1, 1), (none, 0, 0)⟩ ⟨lf, (IA, In, Ic), (KA, Kn, Kc)⟩ [⟨(A1, 1, c1), (A2, 1, c2), 0, 0⟩] is [] ks v7 _ hX.out.2.2.2.1 hX.out.2.2.1).mono ?_; rintro e w9 ⟨rfl, hB⟩; (have H10 := Aside0.mk (And.intro (hX.out.2.2.2.2.1.below hB) (below_then hX.out.2.2.2.2.2 hX.out.2.2.2.2.2.size hB))); clear y0 y1 y2 z0 z1 z2; (have z2 := (item_cells2 ((hB.block _ (Array.getElem?_eq_some_iff.1 hR.out.2.2).1).trans hR.out.2.2)).2.2.1); clear hB)
    | (go_at_call 16; refine (body_any A8 256 c8 ex9 w9 H10.out.1).mono ?_; rintro e w10 ⟨A10, c10, rfl, hO, hB⟩; rw [ex9_body.1]; (have H11 := Aside0.mk (And.intro (H10.out.1.below hB) (below_then H10.out.2 H10.out.2.size hB))); clear hO hB)
    | (go_at_call 16; refine (body_any A8 256 c8 ex9 w10 H11.out.1).mono ?_; rintro e w11 ⟨A11, c11, rfl, hO, hB⟩; rw [ex9_body.1] at hO ⊢; (have H12 := Aside0.mk (below_then H11.out.2 H11.out.2.size hB)); (obtain ⟨ad, rfl, k0⟩ := hO.bs.at_ 0 (by omega) (by omega)); rw [show b8 (bodyL ex9) (0 : Int).toNat = 7 by decide +kernel] at k0; (have k1 : World.cell? w11 ad = some (.int .u8 7) := k0); (have k2 : World.cell? w11 (ad.add 0) = some (.int .u8 7) := k0); clear hO hB k0))
  go_ret
  exact ⟨rfl, H12.out⟩
end Go.Proofs.YtbjfklgmbeaaoaaGreat
