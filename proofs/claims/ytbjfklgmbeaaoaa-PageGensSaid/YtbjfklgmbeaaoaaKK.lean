/- The walk of PageHeads. -/
import Derived.Test.YtbjfklgmbeaaoaaKJ
set_option linter.unusedVariables false
set_option linter.unusedSimpArgs false
namespace Go.Proofs.Ytbjfklgmbeaaoaa
open Go.RowKit

set_option maxHeartbeats 1000000 in
theorem few7_any (A : Option Addr) (n c : Nat) (w : World) : Calls Try.prog 23 #[.slice A n c] w fun e w' => e = .returned (.bool (decide ((n : Int) ≤ 2000))) ∧ w = w' := by
  go_enter Try.func23, Try.ntmps23
  go_wp2
  go_ret
  exact ⟨rfl, rfl⟩
set_option maxHeartbeats 4000000 in
set_option maxRecDepth 100000 in
theorem pageHeads_any (A : Option Addr) (n c : Nat) (xs : List UInt8) (w : World) (hb : Bs w A n c xs) : Calls Try.prog 7 #[.slice A n c] w fun e w' => e = .returned (.bool true) ∧ Below w.heap.size w w' := by
  have hlim := hb.lim
  have HX := Aside0.mk hb
  have HN := Aside0.mk hb.len
  by_cases hf : n ≤ 2000
  case neg =>
    have d1 : decide ((n : Int) ≤ 2000) = false := decide_eq_false (by omega)
    clear hb hf
    go_enter Try.func7, Try.ntmps7
    go_wp2_with (first
      | (go_at_call 23; refine (few7_any A n c _).mono ?_; rintro e w1 ⟨rfl, rfl⟩; rw [d1])
      | (go_at_call 24; refine (alive07_any _).mono ?_; rintro e w2 ⟨rfl, hB⟩; (have H2 := Aside0.mk hB); clear hB))
    go_ret
    exact ⟨rfl, H2.out⟩
  case pos =>
    have d1 : decide ((n : Int) ≤ 2000) = true := decide_eq_true (by omega)
    clear hb hf
    have cB : ∀ W, Bs W A n c xs → Calls Try.prog 27 #[.slice A n c] W fun e w' => ∃ A1 c1, e = .returned (.slice A1 (bodyL xs).length c1) ∧ Ow w' W.heap.size A1 (bodyL xs).length c1 (bodyL xs) ∧ Below W.heap.size W w' := fun W hW => body_any A n c xs W hW
    have cH : ∀ W, Bs W A n c xs → Calls Try.prog 25 #[.slice A n c] W fun e w' => e = .returned (.tuple #[.agg (hV xs), .int .i64 (hE xs)]) ∧ Below W.heap.size W w' := fun W hW => headOf_any A n c xs W hW
    have cR : ∀ W, Bs W A n c xs → Calls Try.prog 26 #[.slice A n c] W fun e w' => e = .returned (.tuple #[.agg (hV xs), .int .i64 (hE xs)]) ∧ Below W.heap.size W w' := fun W hW => rHeadOf_any A n c xs W hW
    have g0 : (hE xs == hE xs) = true := beq_self_eq_true _
    by_cases q : hE xs = 0
    case neg =>
      have g1 : (hE xs == 0) = false := beq_eq_false_iff_ne.2 q
      unfold hV at cH cR
      rw [if_neg q] at cH cR
      have HBY := Aside0.mk (show bodyL xs = [] from if_neg (fun r => q r.1))
      clear q
      go_enter Try.func7, Try.ntmps7
      go_upto_region 4 with (first
        | (go_at_call 23; refine (few7_any A n c _).mono ?_; rintro e w1 ⟨rfl, rfl⟩; rw [d1])
        | (go_at_call 25; refine (cH w HX.out).mono ?_; rintro e w1 ⟨rfl, hB⟩; (have H1 := Aside0.mk hB); clear hB))
      have h2 := below_then H1.out H1.out.size ((Below.refl _ w1).alloc (Nat.le_refl _) (.cells #[.int .i64 0, .int .i64 0, .int .i64 0, .int .i64 0] 53))
      have H2 := Aside0.mk (And.intro (HX.out.below h2) (And.intro h2 (heap_alloc_new w1 (.cells #[.int .i64 0, .int .i64 0, .int .i64 0, .int .i64 0] 53))))
      obtain ⟨w2, hw2⟩ : ∃ X, w1.alloc (.cells #[.int .i64 0, .int .i64 0, .int .i64 0, .int .i64 0] 53) = X := ⟨_, rfl⟩
      obtain ⟨N, hN⟩ : ∃ X, w1.heap.size = X := ⟨_, rfl⟩
      rw [hw2, hN] at H2
      rw [hw2, hN]
      clear h2 hw2 hN
      go_upto_region 5 with (go_at_call 26; refine (cR w2 H2.out.1).mono ?_; rintro e w3 ⟨rfl, hB⟩; (have H3 := Aside0.mk hB); clear hB)
      have h4 := below_then H3.out H3.out.size ((Below.refl _ w3).alloc (Nat.le_refl _) (.cells #[.int .i64 0, .int .i64 0, .int .i64 0, .int .i64 0] 56))
      have H4 := Aside0.mk (And.intro (H2.out.1.below h4) (And.intro (below_then H2.out.2.1 H2.out.2.1.size h4) (And.intro ((h4.block _ (Array.getElem?_eq_some_iff.1 H2.out.2.2).1).trans H2.out.2.2) (heap_alloc_new w3 (.cells #[.int .i64 0, .int .i64 0, .int .i64 0, .int .i64 0] 56)))))
      obtain ⟨w4, hw4⟩ : ∃ X, w3.alloc (.cells #[.int .i64 0, .int .i64 0, .int .i64 0, .int .i64 0] 56) = X := ⟨_, rfl⟩
      obtain ⟨M, hM⟩ : ∃ X, w3.heap.size = X := ⟨_, rfl⟩
      rw [hw4, hM] at H4
      rw [hw4, hM]
      clear h4 hw4 hM
      obtain ⟨z0, z1, z2, z3⟩ := item_cells2 H4.out.2.2.2
      clear z0 z1 z2 z3
      go_upto_region 8 with fail
      go_wp2_with (first
        | (go_at_call 24; refine (alive07_any _).mono ?_; rintro e w5 ⟨rfl, hB⟩; (have H5 := Aside0.mk (And.intro (H4.out.1.below hB) (below_then H4.out.2.1 H4.out.2.1.size hB))); (obtain ⟨y0, y1, y2, y3⟩ := item_cells2 ((hB.block _ (Array.getElem?_eq_some_iff.1 H4.out.2.2.1).1).trans H4.out.2.2.1)); (obtain ⟨z0, z1, z2, z3⟩ := item_cells2 ((hB.block _ (Array.getElem?_eq_some_iff.1 H4.out.2.2.2).1).trans H4.out.2.2.2)); clear hB)
        | (go_at_call 27; refine (cB w5 H5.out.1).mono ?_; rintro e w6 ⟨A6, c6, rfl, hO, hB⟩; (have H6 := Aside0.mk (And.intro (hO.bs) (And.intro (H5.out.1.below hB) (below_then H5.out.2 H5.out.2.size hB)))); clear hO hB)
        | (go_at_call 20; refine (equal8_any _ _ _ _ _ _ _ _ w6 H6.out.1 (Bs.nil _ _ _ (by omega))).mono ?_; rintro e w7 ⟨rfl, rfl⟩; rw [HBY.out, seq_t (rfl)]))
      go_ret
      exact ⟨rfl, H6.out.2.2⟩
    case pos =>
      have g1 : (hE xs == 0) = true := beq_iff_eq.2 q
      have HE := Aside0.mk (hE_in q)
      unfold hV at cH cR
      rw [if_pos q] at cH cR
      have k1 : (hK xs == hK xs) = true := beq_self_eq_true _
      have k2 : (hG xs == hG xs) = true := beq_self_eq_true _
      have k3 : (hC xs == hC xs) = true := beq_self_eq_true _
      have k4 : (hNx xs == hNx xs) = true := beq_self_eq_true _
      by_cases q2 : n = 256
      case neg =>
        have g2 : ((n : Int) == 256) = false := beq_eq_false_iff_ne.2 (by omega)
        have HBY := Aside0.mk (show bodyL xs = [] from if_neg (fun r => q2 (by rw [← HN.out]; exact r.2)))
        clear q q2
        go_enter Try.func7, Try.ntmps7
        go_upto_region 4 with (first
          | (go_at_call 23; refine (few7_any A n c _).mono ?_; rintro e w1 ⟨rfl, rfl⟩; rw [d1])
          | (go_at_call 25; refine (cH w HX.out).mono ?_; rintro e w1 ⟨rfl, hB⟩; (have H1 := Aside0.mk hB); clear hB))
        have h2 := below_then H1.out H1.out.size ((Below.refl _ w1).alloc (Nat.le_refl _) (.cells #[.int .i64 (hK xs), .int .i64 (hG xs), .int .i64 (hC xs), .int .i64 (hNx xs)] 53))
        have H2 := Aside0.mk (And.intro (HX.out.below h2) (And.intro h2 (heap_alloc_new w1 (.cells #[.int .i64 (hK xs), .int .i64 (hG xs), .int .i64 (hC xs), .int .i64 (hNx xs)] 53))))
        obtain ⟨w2, hw2⟩ : ∃ X, w1.alloc (.cells #[.int .i64 (hK xs), .int .i64 (hG xs), .int .i64 (hC xs), .int .i64 (hNx xs)] 53) = X := ⟨_, rfl⟩
        obtain ⟨N, hN⟩ : ∃ X, w1.heap.size = X := ⟨_, rfl⟩
        rw [hw2, hN] at H2
        rw [hw2, hN]
        clear h2 hw2 hN
        go_upto_region 5 with (go_at_call 26; refine (cR w2 H2.out.1).mono ?_; rintro e w3 ⟨rfl, hB⟩; (have H3 := Aside0.mk hB); clear hB)
        have h4 := below_then H3.out H3.out.size ((Below.refl _ w3).alloc (Nat.le_refl _) (.cells #[.int .i64 (hK xs), .int .i64 (hG xs), .int .i64 (hC xs), .int .i64 (hNx xs)] 56))
        have H4 := Aside0.mk (And.intro (H2.out.1.below h4) (And.intro (below_then H2.out.2.1 H2.out.2.1.size h4) (And.intro ((h4.block _ (Array.getElem?_eq_some_iff.1 H2.out.2.2).1).trans H2.out.2.2) (heap_alloc_new w3 (.cells #[.int .i64 (hK xs), .int .i64 (hG xs), .int .i64 (hC xs), .int .i64 (hNx xs)] 56)))))
        obtain ⟨w4, hw4⟩ : ∃ X, w3.alloc (.cells #[.int .i64 (hK xs), .int .i64 (hG xs), .int .i64 (hC xs), .int .i64 (hNx xs)] 56) = X := ⟨_, rfl⟩
        obtain ⟨M, hM⟩ : ∃ X, w3.heap.size = X := ⟨_, rfl⟩
        rw [hw4, hM] at H4
        rw [hw4, hM]
        clear h4 hw4 hM
        obtain ⟨z0, z1, z2, z3⟩ := item_cells2 H4.out.2.2.2
        clear z0 z1 z2 z3
        go_upto_region 8 with fail
        go_wp2_with (first
          | (go_at_call 24; refine (alive07_any _).mono ?_; rintro e w5 ⟨rfl, hB⟩; (have H5 := Aside0.mk (And.intro (H4.out.1.below hB) (below_then H4.out.2.1 H4.out.2.1.size hB))); (obtain ⟨y0, y1, y2, y3⟩ := item_cells2 ((hB.block _ (Array.getElem?_eq_some_iff.1 H4.out.2.2.1).1).trans H4.out.2.2.1)); (obtain ⟨z0, z1, z2, z3⟩ := item_cells2 ((hB.block _ (Array.getElem?_eq_some_iff.1 H4.out.2.2.2).1).trans H4.out.2.2.2)); clear hB)
          | (go_at_call 27; refine (cB w5 H5.out.1).mono ?_; rintro e w6 ⟨A6, c6, rfl, hO, hB⟩; (have H6 := Aside0.mk (And.intro (hO.bs) (And.intro (H5.out.1.below hB) (below_then H5.out.2 H5.out.2.size hB)))); clear hO hB)
          | (go_at_call 20; refine (equal8_any _ _ _ _ _ _ _ _ w6 H6.out.1 (Bs.nil _ _ _ (by omega))).mono ?_; rintro e w7 ⟨rfl, rfl⟩; rw [HBY.out, seq_t (rfl)]))
        go_ret
        exact ⟨rfl, H6.out.2.2⟩
      case pos =>
        subst q2
        have g2 : (((256 : Nat) : Int) == 256) = true := by decide
        have g3 : ((256 : Int) == 256) = true := by decide
        have HCP := Aside0.mk (show 256 - cpI (hG xs) = hdI (hG xs) ∧ (hdI (hG xs) = 8 ∨ hdI (hG xs) = 16) ∧ 0 ≤ cpI (hG xs) ∧ cpI (hG xs) ≤ 256 by
          rcases (show hG xs = 1 ∨ hG xs = 2 ∨ hG xs = 3 by have := HE.out; omega) with h | h | h <;> rw [h] <;> decide)
        have HBY := Aside0.mk (show bodyL xs = xs.drop (hdI (hG xs)).toNat from if_pos ⟨q, HN.out⟩)
        have t1 : wrap64 (256 - cpI (hG xs)) = hdI (hG xs) := by
          have h := HCP.out
          rw [h.1]
          rcases h.2.1 with e | e <;> rw [e] <;> decide +kernel
        have s1 := fun W => sl8_l W A 256 c .i64 (hdI (hG xs)) (by have := HCP.out; omega) (by have := HCP.out; omega)
        have HT := Aside0.mk t1
        clear q
        go_enter Try.func7, Try.ntmps7
        go_upto_region 4 with (first
          | (go_at_call 23; refine (few7_any A 256 c _).mono ?_; rintro e w1 ⟨rfl, rfl⟩; rw [d1])
          | (go_at_call 25; refine (cH w HX.out).mono ?_; rintro e w1 ⟨rfl, hB⟩; (have H1 := Aside0.mk hB); clear hB))
        have h2 := below_then H1.out H1.out.size ((Below.refl _ w1).alloc (Nat.le_refl _) (.cells #[.int .i64 (hK xs), .int .i64 (hG xs), .int .i64 (hC xs), .int .i64 (hNx xs)] 53))
        have H2 := Aside0.mk (And.intro (HX.out.below h2) (And.intro h2 (heap_alloc_new w1 (.cells #[.int .i64 (hK xs), .int .i64 (hG xs), .int .i64 (hC xs), .int .i64 (hNx xs)] 53))))
        obtain ⟨w2, hw2⟩ : ∃ X, w1.alloc (.cells #[.int .i64 (hK xs), .int .i64 (hG xs), .int .i64 (hC xs), .int .i64 (hNx xs)] 53) = X := ⟨_, rfl⟩
        obtain ⟨N, hN⟩ : ∃ X, w1.heap.size = X := ⟨_, rfl⟩
        rw [hw2, hN] at H2
        rw [hw2, hN]
        clear h2 hw2 hN
        go_upto_region 5 with (go_at_call 26; refine (cR w2 H2.out.1).mono ?_; rintro e w3 ⟨rfl, hB⟩; (have H3 := Aside0.mk hB); clear hB)
        have h4 := below_then H3.out H3.out.size ((Below.refl _ w3).alloc (Nat.le_refl _) (.cells #[.int .i64 (hK xs), .int .i64 (hG xs), .int .i64 (hC xs), .int .i64 (hNx xs)] 56))
        have H4 := Aside0.mk (And.intro (H2.out.1.below h4) (And.intro (below_then H2.out.2.1 H2.out.2.1.size h4) (And.intro ((h4.block _ (Array.getElem?_eq_some_iff.1 H2.out.2.2).1).trans H2.out.2.2) (heap_alloc_new w3 (.cells #[.int .i64 (hK xs), .int .i64 (hG xs), .int .i64 (hC xs), .int .i64 (hNx xs)] 56)))))
        obtain ⟨w4, hw4⟩ : ∃ X, w3.alloc (.cells #[.int .i64 (hK xs), .int .i64 (hG xs), .int .i64 (hC xs), .int .i64 (hNx xs)] 56) = X := ⟨_, rfl⟩
        obtain ⟨M, hM⟩ : ∃ X, w3.heap.size = X := ⟨_, rfl⟩
        rw [hw4, hM] at H4
        rw [hw4, hM]
        clear h4 hw4 hM
        obtain ⟨z0, z1, z2, z3⟩ := item_cells2 H4.out.2.2.2
        go_upto_region 7 with fail
        go_upto_region 8 with (go_at_call 14; refine (rCap_any (hG xs) w4).mono ?_; rintro e w5 ⟨rfl, rfl⟩)
        clear z0 z1 z2 z3
        go_upto_region 8 with fail
        go_wp2_with (first
          | (go_at_call 24; refine (alive07_any _).mono ?_; rintro e w5 ⟨rfl, hB⟩; (have H5 := Aside0.mk (And.intro (H4.out.1.below hB) (below_then H4.out.2.1 H4.out.2.1.size hB))); (obtain ⟨y0, y1, y2, y3⟩ := item_cells2 ((hB.block _ (Array.getElem?_eq_some_iff.1 H4.out.2.2.1).1).trans H4.out.2.2.1)); (obtain ⟨z0, z1, z2, z3⟩ := item_cells2 ((hB.block _ (Array.getElem?_eq_some_iff.1 H4.out.2.2.2).1).trans H4.out.2.2.2)); clear hB)
          | (go_at_call 27; refine (cB w5 H5.out.1).mono ?_; rintro e w6 ⟨A6, c6, rfl, hO, hB⟩; (have H6 := Aside0.mk (And.intro (hO.bs) (And.intro (H5.out.1.below hB) (below_then H5.out.2 H5.out.2.size hB)))); clear hO hB)
          | (go_at_call 20; refine (equal8_any _ _ _ _ _ _ _ _ w6 H6.out.1 (H6.out.2.1.drop (hdI (hG xs)).toNat (by have := HCP.out; omega))).mono ?_; rintro e w7 ⟨rfl, rfl⟩; rw [HBY.out, seq_t (rfl)]))
        go_ret
        exact ⟨rfl, H6.out.2.2⟩
end Go.Proofs.Ytbjfklgmbeaaoaa
