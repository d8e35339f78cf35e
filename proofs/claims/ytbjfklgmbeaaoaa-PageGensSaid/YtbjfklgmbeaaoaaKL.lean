/- The walk of PageWraps. -/
import Derived.Test.YtbjfklgmbeaaoaaKK
import Derived.Test.YtbjfklgmbeaaoaaV2
set_option linter.unusedVariables false
set_option linter.unusedSimpArgs false
namespace Go.Proofs.Ytbjfklgmbeaaoaa
open Go.RowKit

def pre8 (xs ys : List UInt8) : Bool := decide (ys.length ≤ xs.length ∧ xs.take ys.length = ys)
set_option maxHeartbeats 1000000 in
set_option maxRecDepth 100000 in
theorem hasPrefix_any (A : Option Addr) (n c : Nat) (xs : List UInt8) (B : Option Addr) (m d : Nat) (ys : List UInt8) (w : World) (hx : Bs w A n c xs) (hy : Bs w B m d ys) :
    Calls Try.prog 37 #[.slice A n c, .slice B m d] w fun e w' => e = .returned (.bool (pre8 xs ys)) ∧ w = w' := by
  have hln := hx.len
  have hlm := hy.len
  have hl1 := hx.lim
  have hl2 := hy.lim
  by_cases h : m ≤ n
  · have f1 : decide (m ≤ n) = true := decide_eq_true h
    have s1 : ∀ W : World, (Instr.slice 27 (.slice A n c) none (some (.int .i64 (m : Int))) none).run Try.prog W = .ok (.slice A m c) W := fun W => by
      rw [sl8_h W A n c .i64 (m : Int) (by omega) (by have := hx.le; omega), Int.toNat_natCast]
    have hv := Aside0.mk (show pre8 xs ys = (xs.take m == ys) from by unfold pre8; rw [hlm, hln, Bool.eq_iff_iff, decide_eq_true_iff, beq_iff_eq]; exact ⟨fun k => k.2, fun k => ⟨h, k⟩⟩)
    have HX := Aside0.mk (And.intro (hx.take m h) hy)
    clear hx hy hln hlm h
    go_enter Try.func37, Try.ntmps37
    go_wp2_with (go_at_call 20; refine (equal8_any _ _ _ _ _ _ _ _ _ HX.out.1 HX.out.2).mono ?_; rintro e w1 ⟨rfl, rfl⟩)
    go_ret
    exact ⟨ret_bool hv.out.symm, rfl⟩
  · have f1 : decide (m ≤ n) = false := decide_eq_false h
    have hv := Aside0.mk (show pre8 xs ys = false from decide_eq_false (fun k => by omega))
    clear hx hy hln hlm h
    go_enter Try.func37, Try.ntmps37
    go_wp2
    go_ret
    exact ⟨ret_bool hv.out.symm, rfl⟩


set_option maxHeartbeats 4000000 in
set_option maxRecDepth 100000 in
theorem pageWraps_any (k g ct nx : Int) (A : Option Addr) (n c : Nat) (ys : List UInt8) (w : World) (hb : Bs w A n c ys) (hct : -9223372036854775808 ≤ ct ∧ ct ≤ 9223372036854775807) (hnx : -9223372036854775808 ≤ nx ∧ nx ≤ 9223372036854775807) :
    Calls Try.prog 10 #[.agg #[.int .i64 k, .int .i64 g, .int .i64 ct, .int .i64 nx], .slice A n c] w fun e w' => e = .returned (.bool true) ∧ Below w.heap.size w w' := by
  have hlim := hb.lim
  have HX := Aside0.mk hb
  have HL := Aside0.mk hb.len
  by_cases hf : n ≤ 2000
  case neg =>
    have d1 : decide ((n : Int) ≤ 2000) = false := decide_eq_false (by omega)
    clear hb hf hct hnx
    go_enter Try.func10, Try.ntmps10
    go_upto_region 1 with fail
    have hB0 := (Below.refl _ w).alloc (Nat.le_refl _) (.cells #[.int .i64 k, .int .i64 g, .int .i64 ct, .int .i64 nx] 56)
    have H0 := Aside0.mk (And.intro (heap_alloc_new w (.cells #[.int .i64 k, .int .i64 g, .int .i64 ct, .int .i64 nx] 56)) (And.intro hB0 (HX.out.below hB0)))
    obtain ⟨w0, hw0⟩ : ∃ X, w.alloc (.cells #[.int .i64 k, .int .i64 g, .int .i64 ct, .int .i64 nx] 56) = X := ⟨_, rfl⟩
    obtain ⟨N, hN⟩ : ∃ X, w.heap.size = X := ⟨_, rfl⟩
    rw [hw0, hN] at H0
    rw [hw0, hN]
    clear hB0 hw0
    have H0B := Aside0.mk (show Below w.heap.size w w0 by rw [hN]; exact H0.out.2.1)
    clear hN

    go_wp2_with (first
      | (go_at_call 23; refine (few7_any A n c _).mono ?_; rintro e w1 ⟨rfl, rfl⟩; rw [d1])
      | (go_at_call 24; refine (alive07_any _).mono ?_; rintro e w2 ⟨rfl, hB⟩; (have H2 := Aside0.mk (below_then H0B.out H0B.out.size hB)); clear hB))
    go_ret
    exact ⟨rfl, H2.out⟩
  case pos =>
    have d1 : decide ((n : Int) ≤ 2000) = true := decide_eq_true (by omega)
    have cW : ∀ W, Bs W A n c ys → _ := fun W hW => wrap_any k g ct nx A n c ys W hW hct hnx
    have cR : ∀ W, Bs W A n c ys → _ := fun W hW => rwrap_any k g ct nx A n c ys W hW hct hnx
    rw [wrE_eq hnx.2, wrB_eq hnx.2, hb.len] at cW
    have hnx2 := hnx.2
    clear hb hf hct hnx
    obtain ⟨ev, hev⟩ : ∃ x, rwE k g ct nx n = x := ⟨_, rfl⟩
    obtain ⟨bb, hbb⟩ : ∃ x, rwB k g ct nx ys = x := ⟨_, rfl⟩
    rw [hev, hbb] at cW cR
    have HEQ := Aside0.mk (show (bb == bb) = true from beq_self_eq_true bb)
    have HB := Aside0.mk hbb
    have HV := Aside0.mk (And.intro hev hnx2)
    have g1 : (ev != ev) = false := bne_self_eq_false _
    clear hev hbb hnx2
    by_cases q : ev = 0
    case neg =>
      have g2 : (ev != 0) = true := bne_iff_ne.2 q
      have hl : bb = [] := by
        rw [← HB.out]
        unfold rwB
        rw [HL.out, HV.out.1, if_neg q]
      subst hl
      have HQ := Aside0.mk q
      clear q
      go_enter Try.func10, Try.ntmps10
      go_upto_region 1 with fail
      have hB0 := (Below.refl _ w).alloc (Nat.le_refl _) (.cells #[.int .i64 k, .int .i64 g, .int .i64 ct, .int .i64 nx] 56)
      have H0 := Aside0.mk (And.intro (heap_alloc_new w (.cells #[.int .i64 k, .int .i64 g, .int .i64 ct, .int .i64 nx] 56)) (And.intro hB0 (HX.out.below hB0)))
      obtain ⟨w0, hw0⟩ : ∃ X, w.alloc (.cells #[.int .i64 k, .int .i64 g, .int .i64 ct, .int .i64 nx] 56) = X := ⟨_, rfl⟩
      obtain ⟨N, hN⟩ : ∃ X, w.heap.size = X := ⟨_, rfl⟩
      rw [hw0, hN] at H0
      rw [hw0, hN]
      clear hB0 hw0
      have H0B := Aside0.mk (show Below w.heap.size w w0 by rw [hN]; exact H0.out.2.1)
      clear hN
      obtain ⟨y0, y1, y2, y3⟩ := item_cells2 H0.out.1
      go_upto_region 4 with (first
        | (go_at_call 23; refine (few7_any A n c _).mono ?_; rintro e w1 ⟨rfl, rfl⟩; rw [d1])
        | (go_at_call 35; refine (cW w0 H0.out.2.2).mono ?_; rintro e w1 ⟨A1, c1, rfl, hO, hB⟩; (have H1 := Aside0.mk (And.intro hO.bs (And.intro (H0.out.2.2.below hB) (And.intro ((hB.block _ (Array.getElem?_eq_some_iff.1 H0.out.1).1).trans H0.out.1) (below_then H0B.out H0B.out.size hB))))); clear y0 y1 y2 y3; (obtain ⟨y0, y1, y2, y3⟩ := item_cells2 H1.out.2.2.1); clear hO hB))
      go_upto_region 5 with (go_at_call 36; refine (cR w1 H1.out.2.1).mono ?_; rintro e w2 ⟨A2, c2, rfl, hO, hB⟩; (have H2 := Aside0.mk (And.intro (H1.out.1.below hB) (And.intro hO.bs (And.intro (H1.out.2.1.below hB) (And.intro ((hB.block _ (Array.getElem?_eq_some_iff.1 H1.out.2.2.1).1).trans H1.out.2.2.1) (below_then H1.out.2.2.2 H1.out.2.2.2.size hB)))))); clear y0 y1 y2 y3; clear hO hB)

      go_wp2_with (first
        | (go_at_call 20; refine (equal8_any _ _ _ _ _ _ _ _ w2 H2.out.1 H2.out.2.1).mono ?_; rintro e w3 ⟨rfl, rfl⟩; rw [HEQ.out])
        | (go_at_call 24; refine (alive07_any _).mono ?_; rintro e w5 ⟨rfl, hB⟩; (have H5 := Aside0.mk (below_then H2.out.2.2.2.2 H2.out.2.2.2.2.size hB)); clear hB))
      go_ret
      exact ⟨rfl, H5.out⟩
    case pos =>
      subst q
      have hz : rwE k g ct nx ys.length = 0 := by rw [HL.out]; exact HV.out.1
      have HBK := Aside0.mk (wrap_back HV.out.2 hz)
      have hV7 := wrap_V HV.out.2 hz
      rw [HB.out] at HBK hV7
      have k1 : (k == k) = true := beq_self_eq_true _
      have k2 : (g == g) = true := beq_self_eq_true _
      have k3 : (ct == ct) = true := beq_self_eq_true _
      have k4 : (nx == nx) = true := beq_self_eq_true _
      have HPR := Aside0.mk (show pre8 (bodyL bb) ys = true by
        rw [HBK.out.2.2.2.2.2]
        exact decide_eq_true ⟨by simp, List.take_left' rfl⟩)
      clear hz
      go_enter Try.func10, Try.ntmps10
      go_upto_region 1 with fail
      have hB0 := (Below.refl _ w).alloc (Nat.le_refl _) (.cells #[.int .i64 k, .int .i64 g, .int .i64 ct, .int .i64 nx] 56)
      have H0 := Aside0.mk (And.intro (heap_alloc_new w (.cells #[.int .i64 k, .int .i64 g, .int .i64 ct, .int .i64 nx] 56)) (And.intro hB0 (HX.out.below hB0)))
      obtain ⟨w0, hw0⟩ : ∃ X, w.alloc (.cells #[.int .i64 k, .int .i64 g, .int .i64 ct, .int .i64 nx] 56) = X := ⟨_, rfl⟩
      obtain ⟨N, hN⟩ : ∃ X, w.heap.size = X := ⟨_, rfl⟩
      rw [hw0, hN] at H0
      rw [hw0, hN]
      clear hB0 hw0
      have H0B := Aside0.mk (show Below w.heap.size w w0 by rw [hN]; exact H0.out.2.1)
      clear hN
      obtain ⟨y0, y1, y2, y3⟩ := item_cells2 H0.out.1
      go_upto_region 4 with (first
        | (go_at_call 23; refine (few7_any A n c _).mono ?_; rintro e w1 ⟨rfl, rfl⟩; rw [d1])
        | (go_at_call 35; refine (cW w0 H0.out.2.2).mono ?_; rintro e w1 ⟨A1, c1, rfl, hO, hB⟩; (have H1 := Aside0.mk (And.intro hO.bs (And.intro (H0.out.2.2.below hB) (And.intro ((hB.block _ (Array.getElem?_eq_some_iff.1 H0.out.1).1).trans H0.out.1) (below_then H0B.out H0B.out.size hB))))); clear y0 y1 y2 y3; (obtain ⟨y0, y1, y2, y3⟩ := item_cells2 H1.out.2.2.1); clear hO hB))
      go_upto_region 5 with (go_at_call 36; refine (cR w1 H1.out.2.1).mono ?_; rintro e w2 ⟨A2, c2, rfl, hO, hB⟩; (have H2 := Aside0.mk (And.intro (H1.out.1.below hB) (And.intro hO.bs (And.intro (H1.out.2.1.below hB) (And.intro ((hB.block _ (Array.getElem?_eq_some_iff.1 H1.out.2.2.1).1).trans H1.out.2.2.1) (below_then H1.out.2.2.2 H1.out.2.2.2.size hB)))))); clear y0 y1 y2 y3; clear hO hB)

      go_upto_region 9 with (go_at_call 20; refine (equal8_any _ _ _ _ _ _ _ _ w2 H2.out.1 H2.out.2.1).mono ?_; rintro e w3 ⟨rfl, rfl⟩; rw [HEQ.out])
      have cH := headOf_any A1 bb.length c1 bb w2 H2.out.1
      rw [hV7, HBK.out.1] at cH
      clear hV7 cW cR
      go_upto_region 10 with (go_at_call 25; refine cH.mono ?_; rintro e w3 ⟨rfl, hB⟩; (have H3 := Aside0.mk hB); clear hB)
      clear cH
      have h4 := below_then H3.out H3.out.size ((Below.refl _ w3).alloc (Nat.le_refl _) (.cells #[.int .i64 k, .int .i64 g, .int .i64 ct, .int .i64 nx] 53))
      have H4 := Aside0.mk (And.intro (H2.out.1.below h4) (And.intro (H2.out.2.2.1.below h4) (And.intro ((h4.block _ (Array.getElem?_eq_some_iff.1 H2.out.2.2.2.1).1).trans H2.out.2.2.2.1) (And.intro (below_then H2.out.2.2.2.2 H2.out.2.2.2.2.size h4) (heap_alloc_new w3 (.cells #[.int .i64 k, .int .i64 g, .int .i64 ct, .int .i64 nx] 53))))))
      obtain ⟨w4, hw4⟩ : ∃ X, w3.alloc (.cells #[.int .i64 k, .int .i64 g, .int .i64 ct, .int .i64 nx] 53) = X := ⟨_, rfl⟩
      obtain ⟨M, hM⟩ : ∃ X, w3.heap.size = X := ⟨_, rfl⟩
      rw [hw4, hM] at H4
      rw [hw4, hM]
      clear h4 hw4 hM
      go_wp2_with (first
        | (go_at_call 24; refine (alive07_any _).mono ?_; rintro e w5 ⟨rfl, hB⟩; (have H5 := Aside0.mk (And.intro (H4.out.1.below hB) (And.intro (H4.out.2.1.below hB) (below_then H4.out.2.2.2.1 H4.out.2.2.2.1.size hB)))); (obtain ⟨y0, y1, y2, y3⟩ := item_cells2 ((hB.block _ (Array.getElem?_eq_some_iff.1 H4.out.2.2.1).1).trans H4.out.2.2.1)); (obtain ⟨z0, z1, z2, z3⟩ := item_cells2 ((hB.block _ (Array.getElem?_eq_some_iff.1 H4.out.2.2.2.2).1).trans H4.out.2.2.2.2)); clear hB)
        | (go_at_call 27; refine (body_any _ _ _ bb w5 H5.out.1).mono ?_; rintro e w6 ⟨A6, c6, rfl, hO, hB⟩; (have H6 := Aside0.mk (And.intro (hO.bs) (And.intro (H5.out.2.1.below hB) (below_then H5.out.2.2 H5.out.2.2.size hB)))); clear hO hB)
        | (go_at_call 37; refine (hasPrefix_any _ _ _ _ _ _ _ _ w6 H6.out.1 H6.out.2.1).mono ?_; rintro e w7 ⟨rfl, rfl⟩; rw [HPR.out]))
      go_ret
      exact ⟨rfl, H6.out.2.2⟩
end Go.Proofs.Ytbjfklgmbeaaoaa
