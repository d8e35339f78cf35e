/- The law OverTorn: a bit of a value's page is turned. -/
import Derived.Test.YtbjfklgmbeaaoaaVD
import Derived.RegionTactic
import Derived.BigRegion
import Derived.Laws.BitsAllLaws
set_option linter.unusedVariables false
set_option linter.unusedSimpArgs false
namespace Go.Proofs.Ytbjfklgmbeaaoaa
open Go.RowKit

theorem flip_val (S : List UInt8) (q r : Nat) (hr : r < 8) : bits .xor .u8 (b8 S q) ((2 : Int) ^ r % 256) = (((S.getD q 0 ^^^ UInt8.ofNat (2 ^ r)).toNat : Nat) : Int) := by
  have hp : (UInt8.ofNat (2 ^ r)).toNat = 2 ^ r := by
    rw [UInt8.toNat_ofNat']
    exact Nat.mod_eq_of_lt (Nat.pow_lt_pow_right (by omega) hr)
  have e : (2 : Int) ^ r % 256 = ((2 ^ r : Nat) : Int) := by
    rcases (show r = 0 ∨ r = 1 ∨ r = 2 ∨ r = 3 ∨ r = 4 ∨ r = 5 ∨ r = 6 ∨ r = 7 by omega) with rfl | rfl | rfl | rfl | rfl | rfl | rfl | rfl <;> rfl
  rw [e]
  unfold b8
  rw [u8_xor_nat _ _ (UInt8.toNat_lt _) (by rw [← hp]; exact UInt8.toNat_lt _), UInt8.toNat_xor, hp]
theorem shl_oneT (r : Nat) (hr : r < 8) : Op.shift .shl .u8 1 .i64 (r : Int) = pure (.int .u8 ((2 ^ r : Nat) : Int)) := by
  rw [shift_shl_u8 (h₀ := by omega) (h₁ := by omega)]
  congr 2
  rcases (show r = 0 ∨ r = 1 ∨ r = 2 ∨ r = 3 ∨ r = 4 ∨ r = 5 ∨ r = 6 ∨ r = 7 by omega) with rfl | rfl | rfl | rfl | rfl | rfl | rfl | rfl <;> rfl
theorem Ow.drewT {w : World} {base n c : Nat} {A : Option Addr} {xs : List UInt8} (h : Ow w base A n c xs) : Ow w.drew base A n c xs := h.kept fun _ _ _ => rfl
theorem runI_bndT {a n : Nat} (h : a + n ≤ 1000) : ∀ z, z ∈ runI (a : Int) n → -9223372036854775808 ≤ z ∧ z ≤ 9223372036854775807 := fun z hz => by
  have := runI_mem hz
  omega
theorem irow_cells {W : World} {M : Nat} {x y : Value} {T : TypeId} (h : W.heap[M]? = some (.cells #[x, y] T)) : W.cell? ⟨M, 0, none⟩ = some x ∧ W.cell? ⟨M, 1, none⟩ = some y ∧ ∀ j, W.frozen? ⟨M, j, none⟩ = false :=
  ⟨by rw [cell_of_row _ _ _ _ _ _ h]; rfl, by rw [cell_of_row _ _ _ _ _ _ h]; rfl, fun j => Go.Joins.unfrozen_of_block h j⟩
set_option maxHeartbeats 16000000 in
set_option maxRecDepth 100000 in
theorem overTornLaw_any (g : Int) (A : Option Addr) (n c : Nat) (xs : List UInt8) (i0 i1 : Int) (w : World) (hg : -9223372036854775808 ≤ g ∧ g ≤ 9223372036854775807) (hx : Bs w A n c xs) (hi0 : -9223372036854775808 ≤ i0 ∧ i0 ≤ 9223372036854775807) (hi1 : -9223372036854775808 ≤ i1 ∧ i1 ≤ 9223372036854775807) :
    Calls Try.prog 5 #[.int .i64 g, .slice A n c, .agg #[.int .i64 i0, .int .i64 i1]] w fun e w' => e = .returned (.bool true) ∧ Below w.heap.size w w' := by
  have HX := Aside0.mk (And.intro hx hx.len)
  obtain ⟨k, hk0⟩ := Int.eq_ofNat_of_zero_le (ovM_hi g (n : Int)).2
  have hk7 : k ≤ 7 := by have := (ovM_hi g (n : Int)).1; omega
  have HM := Aside0.mk hk0
  have hB1 := (Below.refl _ w).alloc (Nat.le_refl _) (.cells #[.int .i64 i0, .int .i64 i1] 42)
  have hr1 := heap_alloc_new w (.cells #[.int .i64 i0, .int .i64 i1] 42)
  clear hx hk0
  go_enter Try.func5, Try.ntmps5
  go_upto_region 1 with fail
  obtain ⟨w1, hw1⟩ : ∃ X, w.alloc (.cells #[.int .i64 i0, .int .i64 i1] 42) = X := ⟨_, rfl⟩
  obtain ⟨N, hN⟩ : ∃ X, w.heap.size = X := ⟨_, rfl⟩
  rw [hw1] at hB1 hr1
  rw [hN] at hr1
  rw [hw1, hN]
  have H1 := Aside0.mk (And.intro hB1 hr1)
  clear hB1 hr1 hw1 hN
  go_upto_region 2 with (go_at_call 11; refine (overMany_any g (n : Int) w1).mono ?_; rintro e w2 ⟨rfl, hB⟩; rw [HM.out]; (have H2 := Aside0.mk (And.intro (below_then H1.out.1 H1.out.1.size hB) ((hB.block N (Array.getElem?_eq_some_iff.1 H1.out.2).1).trans H1.out.2))); clear hB)
  obtain ⟨y0, y1, _⟩ := irow_cells H2.out.2
  by_cases q0 : g < 2
  · have d0a : decide (g < 2) = true := decide_eq_true (by omega)
    go_wp2_with (go_at_call 12; refine (alive08_any _).mono ?_; rintro e w3 ⟨rfl, hB⟩; (have H3 := Aside0.mk (below_then H2.out.1 H2.out.1.size hB)); clear hB)
    go_ret
    exact ⟨rfl, H3.out⟩
  · have d0a : decide (g < 2) = false := decide_eq_false (by omega)
    by_cases q1 : k < 1
    · have d1a : decide ((k : Int) < 1) = true := decide_eq_true (by omega)
      have d1b : decide (k < 1) = true := decide_eq_true (by omega)
      go_wp2_with (go_at_call 12; refine (alive08_any _).mono ?_; rintro e w3 ⟨rfl, hB⟩; (have H3 := Aside0.mk (below_then H2.out.1 H2.out.1.size hB)); clear hB)
      go_ret
      exact ⟨rfl, H3.out⟩
    · have d1a : decide ((k : Int) < 1) = false := decide_eq_false (by omega)
      have d1b : decide (k < 1) = false := decide_eq_false (by omega)
      by_cases q2 : i0 < 0
      · have d2a : decide (i0 < 0) = true := decide_eq_true (by omega)
        go_wp2_with (go_at_call 12; refine (alive08_any _).mono ?_; rintro e w3 ⟨rfl, hB⟩; (have H3 := Aside0.mk (below_then H2.out.1 H2.out.1.size hB)); clear hB)
        go_ret
        exact ⟨rfl, H3.out⟩
      · have d2a : decide (i0 < 0) = false := decide_eq_false (by omega)
        by_cases q3 : (k : Int) ≤ i0
        · have d3a : decide ((k : Int) ≤ i0) = true := decide_eq_true (by omega)
          go_wp2_with (go_at_call 12; refine (alive08_any _).mono ?_; rintro e w3 ⟨rfl, hB⟩; (have H3 := Aside0.mk (below_then H2.out.1 H2.out.1.size hB)); clear hB)
          go_ret
          exact ⟨rfl, H3.out⟩
        · have d3a : decide ((k : Int) ≤ i0) = false := decide_eq_false (by omega)
          by_cases q4 : i1 < 16
          · have d4a : decide (i1 < 16) = true := decide_eq_true (by omega)
            go_wp2_with (go_at_call 12; refine (alive08_any _).mono ?_; rintro e w3 ⟨rfl, hB⟩; (have H3 := Aside0.mk (below_then H2.out.1 H2.out.1.size hB)); clear hB)
            go_ret
            exact ⟨rfl, H3.out⟩
          · have d4a : decide (i1 < 16) = false := decide_eq_false (by omega)
            by_cases q5 : 2048 ≤ i1
            · have d5a : decide (2048 ≤ i1) = true := decide_eq_true (by omega)
              go_wp2_with (go_at_call 12; refine (alive08_any _).mono ?_; rintro e w3 ⟨rfl, hB⟩; (have H3 := Aside0.mk (below_then H2.out.1 H2.out.1.size hB)); clear hB)
              go_ret
              exact ⟨rfl, H3.out⟩
            · have d5a : decide (2048 ≤ i1) = false := decide_eq_false (by omega)
              have HGD := Aside0.mk (And.intro q0 (And.intro q1 (And.intro q4 q5)))
              obtain ⟨J, rfl⟩ := Int.eq_ofNat_of_zero_le (show 0 ≤ i0 by omega)
              obtain ⟨t, rfl⟩ := Int.eq_ofNat_of_zero_le (show 0 ≤ i1 by omega)
              have hJk : J < k := by omega
              have ht1 : 16 ≤ t := by omega
              have ht2 : t < 2048 := by omega
              have hk1 : 1 ≤ k := by omega
              have hg2 : 2 ≤ g := by omega
              have HN0 := Aside0.mk (And.intro hJk (And.intro ht1 (And.intro ht2 (And.intro hk1 hg2))))
              clear q0 q1 q2 q3 q4 q5
              go_upto_region 5 with fail
              clear d0a d1a d1b d2a d3a d4a d5a y0 y1
              go_wp2_with fail
              go_loopg [8, 51] k (fun gk v8 v51 wr => ∃ (j : Nat) (A5 : Option Addr) (c5 : Nat), Aside (gk + j = k) ∧ v8 = .slice A5 j c5 ∧ v51 = .int .i64 (j : Int) ∧ Aside0 (Below w2.heap.size w2 wr ∧ Oc wr w2.heap.size 3 1 A5 j c5 (iv (runI 2 j))))
              case atStart => exact ⟨0, none, 0, by rfl, rfl, rfl, ⟨Below.refl _ _, Oc.nil _ _ _ _⟩⟩
              case round =>
                obtain ⟨j, A5, c5, hk, rfl, rfl, hI⟩ := hrel
                have hjm : j ≤ k := by have := hk.out; omega
                rcases Nat.lt_or_ge j k with hlt | hge
                · have dj : decide ((j : Int) < (k : Int)) = true := decide_eq_true (by omega)
                  have djn : (j : Int) < (k : Int) := by omega
                  have wj : IntKind.i64.wrap ((j : Int) + 1) = ((j + 1 : Nat) : Int) := IntWalk.i64_in _ (by omega)
                  have w2j : IntKind.i64.wrap (2 + (j : Int)) = 2 + (j : Int) := IntWalk.i64_in _ (by omega)
                  go_wp2_with (at_builtin; refine wpl_oc w2.heap.size rfl _ _ 28 3 (.int .i64 0) 1 8 rfl Try.underlying28 infoI rfl (by omega) (by omega) (by omega) A5 j _ wr.heap.size (iv (runI 2 j)) [.int .i64 (2 + (j : Int))] rfl rfl (hI.out.2.below ((Below.refl _ wr).alloc (Nat.le_refl _) _)) rfl (lit1_range _ _) (iv_one [2 + (j : Int)]) (by have := hI.out.1.size; simp; omega) (by omega) ?_; intro A3 c3 w9 hO hG hA; (have hO9 : Oc w9 w2.heap.size 3 1 A3 (j + 1) c3 (iv (runI 2 j ++ [2 + (j : Int)])) := (by rw [iv_app]; exact hO.out)); (have H9 := Aside0.mk (And.intro (hG.out.below hI.out.1 (fun k q => hI.out.2.lo k q) hI.out.1.size) hO9)); clear hO hG hA hO9)
                  go_roundg (k - (j + 1))
                  case measure => have := hk.out; omega
                  case rel => exact ⟨j + 1, A3, c3, (by show k - (j + 1) + (j + 1) = k; omega), by go_num, by go_num, ⟨H9.out.1, by rw [runI_succ]; exact H9.out.2⟩⟩
                · obtain rfl : k = j := by omega
                  have dj : decide ((k : Int) < (k : Int)) = false := by simp
                  obtain ⟨ho, hll, h256⟩ := ov_pages (g := g) (v := xs) HN0.out.2.2.2.1 (by rw [HX.out.2]; exact HM.out) hk7
                  obtain ⟨l, hl⟩ : ∃ x, ovL g xs (runI 2 k) = x := ⟨_, rfl⟩
                  rw [hl] at hll h256
                  have HL := Aside0.mk (And.intro hl (And.intro ho (And.intro hll h256)))
                  have cE := oencode_any g A n c xs A5 k c5 (runI 2 k) wr (HX.out.1.below (below_then H2.out.1 H2.out.1.size hI.out.1)) hI.out.2.rc (runI_bndT (a := 2) (by omega))
                  rw [hl, ho, hll] at cE
                  clear hl ho hll h256
                  go_upto_region 11 with (go_at_call 21; refine cE.mono ?_; rintro e w4 ⟨A7, c7, hs, rfl, hO, hP, hB⟩; (have H4 := Aside0.mk (And.intro (below_then hI.out.1 hI.out.1.size hB) (And.intro hO hP))); clear hO hP hB)
                  clear cE
                  have dk : ((k : Int) != (k : Int)) = false := bne_self_eq_false _
                  go_upto_region 13 with fail
                  obtain ⟨q0, hq0⟩ : ∃ x, 256 * k = x := ⟨_, rfl⟩
                  obtain ⟨nL, hnL⟩ : ∃ x, 512 + q0 = x := ⟨_, rfl⟩
                  obtain ⟨S, hS⟩ : ∃ x, List.replicate 512 (0 : UInt8) ++ l.flatten = x := ⟨_, rfl⟩
                  have HQ := Aside0.mk (And.intro hq0 (And.intro hnL hS))
                  have hmk : ∀ W : World, (Instr.makeSlice 27 (.int .i64 512) (.int .i64 512)).run Try.prog W = .ok (.slice (some ⟨W.heap.size, 0, none⟩) 512 512) (W.alloc (.cells (madeCells #[.int .u8 0] 512) 5)) := mk8 512 (by omega)
                  go_cut [12] (fun v12 wx => ∃ (A12 : Option Addr) (c12 : Nat), v12 = .slice A12 nL c12 ∧ Aside0 (Below w2.heap.size w2 wx ∧ Ow wx w2.heap.size A12 nL c12 S))
                  case first =>
                    have cJ := fun W => join8_any A7 k c7 hs l wr.heap.size W HN0.out.2.2.2.1 (by omega)
                    simp only [hq0] at cJ
                    clear hq0 hS dj dk
                    obtain ⟨x0, hx0⟩ : ∃ X, w4.drew = X := ⟨_, rfl⟩
                    have hA0 : Below w2.heap.size w2 x0 ∧ Oc x0 wr.heap.size 27 1 A7 k c7 (shl hs) ∧ Pgf x0 wr.heap.size hs l := by
                      have hB := below_drew (Below.refl w4.heap.size w4)
                      rw [hx0] at hB
                      exact ⟨below_then H4.out.1 H4.out.1.size hB, H4.out.2.1.below hB, H4.out.2.2.below hB⟩
                    have H5 := Aside0.mk hA0
                    clear hA0
                    refine wp_region_M (fun j => false) (fun _ => True) (by kernel_rfl) ?_
                    rw [hx0]
                    clear hx0
                    refine wpAnyM_take0 (i := 1) (v := ?_) (by simp only [List.getElem?_toArray, List.getElem?_cons_succ, List.getElem?_cons_zero]; rfl) (by kernel_rfl) (by kernel_rfl) (by kernel_rfl) (by rfl) (by exact fun _ _ _ h => h) (Or.inl ⟨by rfl, ?_⟩) ?_
                    rotate_left
                    · (intro w' _; go_simp; try with_reducible rfl)
                    try simp only [Act.put, List.setIfInBounds_toArray, List.set_cons_zero, List.set_cons_succ]
                    refine wpAnyM_two (i := 0) (j := 2) (by kernel_rfl) (by simp only [List.getElem?_toArray, List.getElem?_cons_succ, List.getElem?_cons_zero]; rfl) (by simp only [List.getElem?_toArray, List.getElem?_cons_succ, List.getElem?_cons_zero]; rfl) ?g0 ?g2
                    case g0 =>
                      go_wp2_with fail
                      have hO6 := Ow.made x0 w2.heap.size x0.heap.size rfl H5.out.1.size 512 (by omega)
                      have hB6 := (Below.refl _ x0).alloc (Nat.le_refl _) (.cells (madeCells #[.int .u8 0] 512) 5)
                      obtain ⟨Z, hZ⟩ : ∃ X, x0.heap.size = X := ⟨_, rfl⟩
                      rw [hZ] at hO6 ⊢
                      obtain ⟨x1, hx1⟩ : ∃ X, x0.alloc (.cells (madeCells #[.int .u8 0] 512) 5) = X := ⟨_, rfl⟩
                      rw [hx1] at hO6 hB6 ⊢
                      have H6 := Aside0.mk (And.intro (below_then H5.out.1 H5.out.1.size hB6) (And.intro hO6 (And.intro (H5.out.2.1.below hB6) (H5.out.2.2.below hB6))))
                      clear hO6 hB6 hx1 hZ hmk
                      try simp only [Act.put, List.setIfInBounds_toArray, List.set_cons_zero, List.set_cons_succ]
                      refine wpAnyM_one (i := 2) (by kernel_rfl) (by simp only [List.getElem?_toArray, List.getElem?_cons_succ, List.getElem?_cons_zero]; rfl) ?_
                      go_wp2_with (go_at_call 22; refine (cJ x1 H6.out.2.2.1 HL.out.2.2.1 H6.out.2.2.2 HL.out.2.2.2).mono ?_; rintro e x2 ⟨gj, cj, rfl, hgj, hbj, hB⟩; (have H7 := Aside0.mk (And.intro (below_then H6.out.1 H6.out.1.size hB) (And.intro (H6.out.2.1.below hB) hbj))); clear hgj hbj hB)
                      clear cJ
                      try simp only [Act.put, List.setIfInBounds_toArray, List.set_cons_zero, List.set_cons_succ]
                      refine wpAnyM_one (i := 3) (by kernel_rfl) (by simp only [List.getElem?_toArray, List.getElem?_cons_succ, List.getElem?_cons_zero]; rfl) ?_
                      refine wpl_app8 (w0 := w2) w2.heap.size (by rfl) (.tmp 75) (.tmp 77) (by rfl) (some ⟨Z, 0, none⟩) 512 512 (List.replicate 512 0) (some ⟨gj, 0, none⟩) q0 cj l.flatten (by rfl) (by rfl) H7.out.2.1 H7.out.2.2 H7.out.1 H7.out.1.size (by have := HQ.out.1; omega) ?_
                      intro A9 c9 w9 hO9 hB9 hg9 hat9
                      rw [HQ.out.2.1, HQ.out.2.2] at hO9
                      rw [HQ.out.2.1]
                      have H9 := Aside0.mk (And.intro hB9 hO9)
                      clear hO9 hB9 hg9 hat9
                      refine wpl_nil ⟨rfl, (fun _ => trivial), ?_⟩
                      try simp only [Act.put, List.setIfInBounds_toArray, List.set_cons_zero, List.set_cons_succ]
                      refine wpAnyM_take0 (i := 4) (v := ?_) (by simp only [List.getElem?_toArray, List.getElem?_cons_succ, List.getElem?_cons_zero]; rfl) (by kernel_rfl) (by kernel_rfl) (by kernel_rfl) (by rfl) (by exact fun _ _ _ h => h) (Or.inl ⟨by rfl, ?_⟩) ?_
                      rotate_left
                      · (intro w' _; go_simp; try with_reducible rfl)
                      try simp only [Act.put, List.setIfInBounds_toArray, List.set_cons_zero, List.set_cons_succ]
                      refine wpAnyM_done (by kernel_rfl) ?_ _
                      go_wp2_with fail
                      go_meet
                      exact ⟨A9, c9, rfl, H9⟩
                    case g2 =>
                      go_wp2_with (go_at_call 22; refine (cJ x0 H5.out.2.1 HL.out.2.2.1 H5.out.2.2 HL.out.2.2.2).mono ?_; rintro e x1 ⟨gj, cj, rfl, hgj, hbj, hB⟩; (have H6 := Aside0.mk (And.intro (below_then H5.out.1 H5.out.1.size hB) hbj)); clear hgj hbj hB)
                      clear cJ
                      try simp only [Act.put, List.setIfInBounds_toArray, List.set_cons_zero, List.set_cons_succ]
                      refine wpAnyM_one (i := 0) (by kernel_rfl) (by simp only [List.getElem?_toArray, List.getElem?_cons_succ, List.getElem?_cons_zero]; rfl) ?_
                      go_wp2_with fail
                      have hO7 := Ow.made x1 w2.heap.size x1.heap.size rfl H6.out.1.size 512 (by omega)
                      have hB7 := (Below.refl _ x1).alloc (Nat.le_refl _) (.cells (madeCells #[.int .u8 0] 512) 5)
                      obtain ⟨Z, hZ⟩ : ∃ X, x1.heap.size = X := ⟨_, rfl⟩
                      rw [hZ] at hO7 ⊢
                      obtain ⟨x2, hx2⟩ : ∃ X, x1.alloc (.cells (madeCells #[.int .u8 0] 512) 5) = X := ⟨_, rfl⟩
                      rw [hx2] at hO7 hB7 ⊢
                      have H7 := Aside0.mk (And.intro (below_then H6.out.1 H6.out.1.size hB7) (And.intro hO7 (H6.out.2.below hB7)))
                      clear hO7 hB7 hx2 hZ hmk
                      try simp only [Act.put, List.setIfInBounds_toArray, List.set_cons_zero, List.set_cons_succ]
                      refine wpAnyM_one (i := 3) (by kernel_rfl) (by simp only [List.getElem?_toArray, List.getElem?_cons_succ, List.getElem?_cons_zero]; rfl) ?_
                      refine wpl_app8 (w0 := w2) w2.heap.size (by rfl) (.tmp 75) (.tmp 77) (by rfl) (some ⟨Z, 0, none⟩) 512 512 (List.replicate 512 0) (some ⟨gj, 0, none⟩) q0 cj l.flatten (by rfl) (by rfl) H7.out.2.1 H7.out.2.2 H7.out.1 H7.out.1.size (by have := HQ.out.1; omega) ?_
                      intro A9 c9 w9 hO9 hB9 hg9 hat9
                      rw [HQ.out.2.1, HQ.out.2.2] at hO9
                      rw [HQ.out.2.1]
                      have H9 := Aside0.mk (And.intro hB9 hO9)
                      clear hO9 hB9 hg9 hat9
                      refine wpl_nil ⟨rfl, (fun _ => trivial), ?_⟩
                      try simp only [Act.put, List.setIfInBounds_toArray, List.set_cons_zero, List.set_cons_succ]
                      refine wpAnyM_take0 (i := 4) (v := ?_) (by simp only [List.getElem?_toArray, List.getElem?_cons_succ, List.getElem?_cons_zero]; rfl) (by kernel_rfl) (by kernel_rfl) (by kernel_rfl) (by rfl) (by exact fun _ _ _ h => h) (Or.inl ⟨by rfl, ?_⟩) ?_
                      rotate_left
                      · (intro w' _; go_simp; try with_reducible rfl)
                      try simp only [Act.put, List.setIfInBounds_toArray, List.set_cons_zero, List.set_cons_succ]
                      refine wpAnyM_done (by kernel_rfl) ?_ _
                      go_wp2_with fail
                      go_meet
                      exact ⟨A9, c9, rfl, H9⟩
                  case rest =>
                    obtain ⟨A12, c12, rfl, HC⟩ := hcut
                    clear hq0 hnL hS hmk dj dk
                    obtain ⟨G, rfl, hG1, hG2, hGf⟩ := HC.out.2.head (by have := HQ.out.2.1; omega)
                    obtain ⟨a, ha⟩ : ∃ x, 2 + J = x := ⟨_, rfl⟩
                    obtain ⟨p, hp⟩ : ∃ x, a * 256 = x := ⟨_, rfl⟩
                    obtain ⟨u, hu⟩ : ∃ x, t / 8 = x := ⟨_, rfl⟩
                    obtain ⟨rr, hrr⟩ : ∃ x, t % 8 = x := ⟨_, rfl⟩
                    obtain ⟨r, hr⟩ : ∃ x, p + u = x := ⟨_, rfl⟩
                    have hq0 : (t : Int).tdiv 8 = (u : Int) := by rw [Int.tdiv_eq_ediv_of_nonneg (by omega)]; omega
                    have hr0 : (t : Int).tmod 8 = (rr : Int) := by rw [Int.tmod_eq_emod_of_nonneg (by omega)]; omega
                    have hq1 : (t : Int) / 8 = (u : Int) := by omega
                    have hr1 : (t : Int) % 8 = (rr : Int) := by omega
                    have m1 : IntKind.i64.wrap (2 + (J : Int)) = (a : Int) := (IntWalk.i64_in _ (by omega)).trans (by omega)
                    have m2 : IntKind.i64.wrap ((a : Int) * 256) = (p : Int) := (IntWalk.i64_in _ (by omega)).trans (by omega)
                    have m3 : IntKind.i64.wrap (u : Int) = (u : Int) := IntWalk.i64_in _ (by omega)
                    have m4 : IntKind.i64.wrap ((p : Int) + (u : Int)) = (r : Int) := (IntWalk.i64_in _ (by omega)).trans (by omega)
                    have m5 : IntKind.i64.wrap (rr : Int) = (rr : Int) := IntWalk.i64_in _ (by omega)
                    have hrl : r < nL := by have := HQ.out.1; have := HQ.out.2.1; omega
                    have hrl' : (r : Int) < (nL : Int) := by omega
                    have hr8 : rr < 8 := by omega
                    have hsh := shl_oneT rr hr8
                    obtain ⟨adx, hadx, cx⟩ := HC.out.2.bs.atN r hrl
                    injection hadx with hadx
                    subst hadx
                    rw [add_plain] at cx
                    have hfj := hGf r
                    have hSq : S.set r (S.getD r 0 ^^^ UInt8.ofNat (2 ^ rr)) = flipB S (2048 * (2 + J) + t) := by
                      have e1 : (2048 * (2 + J) + t) / 8 = r := by omega
                      have e2 : (2048 * (2 + J) + t) % 8 = rr := by omega
                      unfold flipB
                      rw [e1, e2]
                    obtain ⟨S2, hS2⟩ : ∃ x, flipB S (2048 * (2 + J) + t) = x := ⟨_, rfl⟩
                    rw [hS2] at hSq
                    have hGw : w2.heap.size ≤ G := hG1
                    have hlim2 := H2.out.1.size
                    have HV := Aside0.mk (And.intro hSq (And.intro hS2 (And.intro hGw (show w.heap.size ≤ G by omega))))
                    have hrow := (HC.out.1.block N (Array.getElem?_eq_some_iff.1 H2.out.2).1).trans H2.out.2
                    obtain ⟨y0, y1, yf⟩ := irow_cells hrow
                    clear hSq hS2 hGw hlim2 hGf hG1 ha hp hu hrr hr yf hrow
                    go_upto_region 14 with fail
                    go_region
                    have hbv := flip_val S r rr hr8
                    have hO4 := (HC.out.2.store r (S.getD r 0 ^^^ UInt8.ofNat (2 ^ rr))).drewT
                    rw [HV.out.1, ← hbv] at hO4
                    have hB4 := below_drew ((below_then H2.out.1 H2.out.1.size HC.out.1).setCell (p := ⟨G, r, none⟩) HV.out.2.2.2 (.int .u8 (bits .xor .u8 (b8 S r) ((2 : Int) ^ rr % 256))))
                    obtain ⟨w5, hw5⟩ : ∃ X, (wc.setCell ⟨G, r, none⟩ (.int .u8 (bits .xor .u8 (b8 S r) ((2 : Int) ^ rr % 256)))).drew = X := ⟨_, rfl⟩
                    rw [hw5] at hO4 hB4
                    rw [hw5]
                    have H5 := Aside0.mk (And.intro hB4 hO4)
                    clear hO4 hB4 hw5 hbv cx hfj hsh m1 m2 m3 m4 m5 hq0 hr0 hq1 hr1 y0 y1 hG2
                    go_upto_region 16 with fail
                    obtain ⟨w6, hw6⟩ : ∃ X, w5.alloc (.cells #[.int .i64 0] 3) = X := ⟨_, rfl⟩
                    obtain ⟨T, hT⟩ : ∃ X, w5.heap.size = X := ⟨_, rfl⟩
                    have hB6 := (Below.refl _ w5).alloc (Nat.le_refl _) (.cells #[.int .i64 0] 3)
                    have hr6 := heap_alloc_new w5 (.cells #[.int .i64 0] 3)
                    have hs6 : w6.heap.size = w5.heap.size + 1 := by rw [← hw6]; simp
                    have hGT : G < w5.heap.size := by obtain ⟨g2, e, _, h, _⟩ := H5.out.2.head (by have := HQ.out.2.1; omega); injection e with e; injection e with e _ _; omega
                    rw [hw6] at hB6 hr6
                    rw [hT] at hr6 hs6 hGT
                    rw [hw6, hT]
                    have hbS : Bs w6 (some ⟨G, 0, none⟩) nL c12 S2 := H5.out.2.bs.below hB6
                    have hB2 := ((Below.refl _ w6).alloc (Nat.le_refl _) (.cells #[.slice (some ⟨G, 0, none⟩) nL c12] 27)).alloc (by simp) (.cells #[.pointer (some ⟨T, 0, none⟩)] 35)
                    obtain ⟨w7, hw7⟩ : ∃ X, (w6.alloc (.cells #[.slice (some ⟨G, 0, none⟩) nL c12] 27)).alloc (.cells #[.pointer (some ⟨T, 0, none⟩)] 35) = X := ⟨_, rfl⟩
                    have hp1 := heap_alloc_new (w6.alloc (.cells #[.slice (some ⟨G, 0, none⟩) nL c12] 27)) (.cells #[.pointer (some ⟨T, 0, none⟩)] 35)
                    have hp2 := (Below.heap_alloc (w6.alloc (.cells #[.slice (some ⟨G, 0, none⟩) nL c12] 27)) (.cells #[.pointer (some ⟨T, 0, none⟩)] 35) w6.heap.size (by simp)).trans (heap_alloc_new w6 (.cells #[.slice (some ⟨G, 0, none⟩) nL c12] 27))
                    rw [show (w6.alloc (.cells #[.slice (some ⟨G, 0, none⟩) nL c12] 27)).heap.size = w6.heap.size + 1 by simp] at hp1
                    rw [hw7] at hB2 hp1 hp2
                    have hT7 : TBox T 0 w7 := (hB2.block T (by omega)).trans hr6
                    have hrd := im_rdr (w6.heap.size + 1) w6.heap.size T (some ⟨G, 0, none⟩) nL c12 S2 w7 (by have := hB2.size; omega) hp1 hp2 (hbS.below hB2) (by have := HQ.out; omega) (by omega) (by omega) (fun ad e _ => by injection e with e; rw [← e]; show G ≠ T; omega)
                    have hcall := odecode_any hrd 0 2 (n : Int) w7 (OnlyB.refl _ _) hT7 ⟨by omega, by omega⟩ ⟨by omega, by have := HX.out.1.lim; omega⟩
                    have h80 : odE (imR S2) 2 (n : Int) = 80 := by
                      have h9 := torn80 (g := g) (v := xs) (k := k) (J := J) (t := t) hg2 hk1 (by rw [HX.out.2]; exact HM.out) hk7 hJk ht1 ht2
                      rw [HL.out.1, HQ.out.2.2, HV.out.2.1, HX.out.2] at h9
                      exact h9
                    unfold DecPost at hcall
                    obtain ⟨gv, hgv⟩ : ∃ x, odG (imR S2) 2 (n : Int) = x := ⟨_, rfl⟩
                    obtain ⟨n1, hn1⟩ : ∃ x, (odV (imR S2) 2 (n : Int)).length = x := ⟨_, rfl⟩
                    obtain ⟨n2, hn2⟩ : ∃ x, (odZ (imR S2) 2 (n : Int)).length = x := ⟨_, rfl⟩
                    rw [h80, hgv, hn1, hn2] at hcall
                    have HW := Aside0.mk (And.intro (below_then H5.out.1 H5.out.1.size (below_then hB6 hB6.size hB2)) (And.intro hw7 hT))
                    have hwT : w.heap.size ≤ T := by have := H5.out.1.size; omega
                    clear hgv hn1 hn2 h80 hrd hp1 hp2 hT7 hB2 hB6 hr6 hs6 hw6 hw7 hbS hT
                    go_wp2_with (first
                      | (go_at_call 17; refine (reader_any (some ⟨G, 0, none⟩) nL c12 T w6).mono ?_; rintro e w8 ⟨rfl, rfl⟩; rw [HW.out.2.1])
                      | (go_at_call 16; refine hcall.mono ?_; rintro e w8 ⟨A1, c1, A2, c2, k', rfl, hO, hI, hx, hk, ho⟩; (have H8 := Aside0.mk (ho.below HW.out.1 hwT (Nat.le_refl _))); clear hO hI hx hk ho)
                      | (go_at_call 12; refine (alive08_any _).mono ?_; rintro e w9 ⟨rfl, hB⟩; (have H9 := Aside0.mk (below_then H8.out H8.out.size hB)); clear hB))
                    go_ret
                    exact ⟨rfl, H9.out⟩
end Go.Proofs.Ytbjfklgmbeaaoaa
