/- The walk of the law PagerReads. -/
import Derived.Test.YthhalmjapiempaaS4
import Derived.Test.YthhalmjapiempaaNG
set_option linter.unusedVariables false
set_option linter.unusedSimpArgs false
namespace Go.Proofs.Ythhalmjapiempaa
open Go.RowKit

set_option maxHeartbeats 64000000 in
set_option maxRecDepth 100000 in
theorem pagerReads_any (A : Option Addr) (n c : Nat) (xs : List UInt8) (id many : Int) (W : World) (hb : Bs W A n c xs) (hi : -9223372036854775808 ≤ id ∧ id ≤ 9223372036854775807) (hm : -9223372036854775808 ≤ many ∧ many ≤ 9223372036854775807) :
    Calls Try.prog 7 #[.slice A n c, .int .i64 id, .int .i64 many] W fun e w' => e = .returned (.bool true) ∧ Below W.heap.size W w' := by
  have HB := Aside0.mk hb
  have hl := Aside0.mk hb.len
  clear hb
  go_enter Try.func7, Try.ntmps7
  by_cases q0 : 10240 < n
  · have g0 : decide ((10240 : Int) < (n : Int)) = true := decide_eq_true (by omega)
    clear q0
    go_wp2_with (first
      | (go_at_call 11; with_reducible refine (alive12_any W).mono ?_; rintro e we ⟨rfl, hB⟩; (have HE := Aside0.mk hB); clear hB)
      | fail)
    go_ret
    exact ⟨rfl, HE.out⟩
  have g0 : decide ((10240 : Int) < (n : Int)) = false := decide_eq_false (by omega)
  have HN := Aside0.mk (show n ≤ 10240 by omega)
  clear q0
  obtain ⟨D, hD⟩ : ∃ d, lodD xs 160 = d := ⟨_, rfl⟩
  have HD := Aside0.mk (show (⟨limI 160, loadL xs (cntL n (limI 160)), [], 0, -1, false⟩ : DV) = D from by rw [← hD]; unfold lodD; rw [hl.out])
  have HDL := Aside0.mk hD
  have HOK := Aside0.mk (show D.ok (nD D) by rw [← hD]; exact (lodD_up xs 160).ok)
  clear hD
  go_upto_region 4 with (first
    | (go_at_call 18; refine (load_h (w0 := W) A n c xs 160 W HB.out (by have := HN.out; omega) (Below.refl _ _)).mono ?_; rintro e w1 ⟨g, rfl, hH, hB⟩; rw [HD.out] at hH; (have H1 := Aside0.mk (And.intro hH (HB.out.below hB))); clear hH hB)
    | (go_at_call 20; refine (rload_any A n c xs 160 w1 H1.out.2 (by have := HN.out; omega)).mono ?_; rintro e w2 ⟨A1, n1, c1, rfl, hR, hB⟩; rw [HDL.out] at hR; rw [HDL.out, show rv D A1 n1 c1 none 0 0 = #[.int .i64 D.limit, .slice A1 n1 c1, .slice none 0 0, .int .i64 D.ops, .int .i64 D.fuse, .bool D.down] from rfl]; (have H2 := Aside0.mk (And.intro (H1.out.1.step hB) hR)); clear hR hB)
    | fail)
  obtain ⟨b8, hb8⟩ : ∃ b : Obj, Obj.cells #[.int .i64 D.limit, .slice A1 n1 c1, .slice none 0 0, .int .i64 D.ops, .int .i64 D.fuse, .bool D.down] 47 = b := ⟨_, rfl⟩
  rw [hb8]
  have hB3 := (Below.refl _ w2).alloc (Nat.le_refl _) b8
  have H3 := Aside0.mk (And.intro (H2.out.1.step hB3) (And.intro (H2.out.2.below hB3) (heap_alloc_new w2 b8)))
  obtain ⟨w3, hw3⟩ : ∃ X, w2.alloc b8 = X := ⟨_, rfl⟩
  obtain ⟨N8, hN8⟩ : ∃ X, w2.heap.size = X := ⟨_, rfl⟩
  rw [hw3, hN8] at H3
  rw [hw3, hN8]
  have hY8 := Aside0.mk (show ∀ w' : World, w'.heap[N8]? = some b8 → w'.cell? ⟨N8, 0, none⟩ = some (.int .i64 D.limit) ∧ w'.cell? ⟨N8, 1, none⟩ = some (.slice A1 n1 c1) ∧ w'.cell? ⟨N8, 2, none⟩ = some (.slice none 0 0) ∧ w'.cell? ⟨N8, 3, none⟩ = some (.int .i64 D.ops) ∧ w'.cell? ⟨N8, 4, none⟩ = some (.int .i64 D.fuse) ∧ w'.cell? ⟨N8, 5, none⟩ = some (.bool D.down) from fun w' hX => by rw [← hb8] at hX; exact row6_cells hX)
  clear hB3 hw3 hN8 hb8

  go_upto_region 7 with (go_at_call 13; refine (pnew_h H3.out.1).mono ?_; rintro e w4 ⟨rfl, hH, hB⟩; (obtain ⟨gp, hgp⟩ : ∃ x, w3.heap.size = x := ⟨_, rfl⟩); rw [hgp] at hH; rw [hgp]; (have H4 := Aside0.mk (And.intro hH (And.intro (H3.out.2.1.below hB) ((hB.block _ (Array.getElem?_eq_some_iff.1 H3.out.2.2).1).trans H3.out.2.2)))); clear hH hB hgp)
  obtain ⟨sb, hsb⟩ : ∃ x, someB D id many = x := ⟨_, rfl⟩
  obtain ⟨se, hse⟩ : ∃ x, someE D id many = x := ⟨_, rfl⟩
  obtain ⟨ob, hob⟩ : ∃ x, someB D id 1 = x := ⟨_, rfl⟩
  obtain ⟨oe, hoe⟩ : ∃ x, someE D id 1 = x := ⟨_, rfl⟩
  have E1 := Aside0.mk (And.intro hsb (And.intro hse (And.intro hob hoe)))
  clear hsb hse hob hoe
  go_upto_region 8 with (go_at_call 34; refine (psome_h H4.out.1 List.mem_cons_self id many).mono ?_; rintro e w5 ⟨A5, c5, rfl, hO, hB⟩; rw [E1.out.1] at hO; rw [E1.out.1, E1.out.2.1]; (have H5 := Aside0.mk (And.intro (H4.out.1.step hB) (And.intro (H4.out.2.1.below hB) ((hB.block _ (Array.getElem?_eq_some_iff.1 H4.out.2.2).1).trans H4.out.2.2)))); (have B5 := Aside0.mk hO.bs); clear hO hB)
  go_upto_region 9 with (go_at_call 35; refine (ppage_h H5.out.1 List.mem_cons_self id).mono ?_; rintro e w6 ⟨A6, c6, rfl, hO, hB⟩; rw [E1.out.2.2.1] at hO; rw [E1.out.2.2.1, E1.out.2.2.2]; (have H6 := Aside0.mk (And.intro (H5.out.1.step hB) (And.intro (H5.out.2.1.below hB) ((hB.block _ (Array.getElem?_eq_some_iff.1 H5.out.2.2).1).trans H5.out.2.2)))); (have B6 := Aside0.mk (And.intro (B5.out.below hB) hO.bs)); clear hO hB)
  obtain ⟨x, hx⟩ : ∃ x, newM D = x := ⟨_, rfl⟩
  obtain ⟨xge, xph, xtg, xtx, xrt, xpg, xli, xcu⟩ := x
  obtain ⟨a5, ha5⟩ : ∃ x, newAt D = x := ⟨_, rfl⟩
  obtain ⟨e5, he5⟩ : ∃ x, newE D = x := ⟨_, rfl⟩
  have NX := Aside0.mk (And.intro ha5 (And.intro he5 hx))
  have NA : ∀ A1 c1, (newM D).agg A1 c1 = #[.int .i64 xge, .int .i64 xph, .int .i64 xtg, .int .i64 xtx, .int .i64 xrt, .int .i64 xpg, .int .i64 xli, .slice A1 xcu.length c1] := fun A1 c1 => by rw [hx]; rfl
  replace NA := Aside0.mk NA
  clear hx ha5 he5
  go_upto_region 10 with (go_at_call 16; refine (newest_h H6.out.1 List.mem_cons_self).mono ?_; rintro e w7 ⟨A7, c7, rfl, hb, hB⟩; rw [NA.out, NX.out.1, NX.out.2.1]; rw [NX.out.2.2] at hb; (have H7 := Aside0.mk (And.intro (H6.out.1.step hB) (And.intro (H6.out.2.1.below hB) ((hB.block _ (Array.getElem?_eq_some_iff.1 H6.out.2.2).1).trans H6.out.2.2)))); (have B7 := Aside0.mk (And.intro (B6.out.1.below hB) (And.intro (B6.out.2.below hB) (show Bs w7 A7 xcu.length c7 xcu from hb)))); clear hb hB)
  obtain ⟨o7, ho7⟩ : ∃ o, Obj.cells #[.int .i64 xge, .int .i64 xph, .int .i64 xtg, .int .i64 xtx, .int .i64 xrt, .int .i64 xpg, .int .i64 xli, .slice A7 xcu.length c7] 36 = o := ⟨_, rfl⟩
  rw [ho7]
  have hB := (Below.refl _ w7).alloc (Nat.le_refl _) o7
  (have H8 := Aside0.mk (And.intro (H7.out.1.step hB) (And.intro (H7.out.2.1.below hB) ((hB.block _ (Array.getElem?_eq_some_iff.1 H7.out.2.2).1).trans H7.out.2.2))))
  have B8 := Aside0.mk (And.intro (B7.out.1.below hB) (And.intro (B7.out.2.1.below hB) (And.intro (B7.out.2.2.below hB) (heap_alloc_new w7 o7))))
  obtain ⟨w8, hw8⟩ : ∃ X, w7.alloc o7 = X := ⟨_, rfl⟩
  obtain ⟨N7, hN7⟩ : ∃ X, w7.heap.size = X := ⟨_, rfl⟩
  rw [hw8] at H8
  rw [hw8, hN7] at B8
  rw [hw8, hN7]
  have hY7 := Aside0.mk (show ∀ w' : World, w'.heap[N7]? = some o7 → w'.cell? ⟨N7, 0, none⟩ = some (.int .i64 xge) ∧ w'.cell? ⟨N7, 1, none⟩ = some (.int .i64 xph) ∧ w'.cell? ⟨N7, 2, none⟩ = some (.int .i64 xtg) ∧ w'.cell? ⟨N7, 3, none⟩ = some (.int .i64 xtx) ∧ w'.cell? ⟨N7, 4, none⟩ = some (.int .i64 xrt) ∧ w'.cell? ⟨N7, 5, none⟩ = some (.int .i64 xpg) ∧ w'.cell? ⟨N7, 6, none⟩ = some (.int .i64 xli) ∧ w'.cell? ⟨N7, 7, none⟩ = some (.slice A7 xcu.length c7) from fun w' hX => by rw [← ho7] at hX; exact row8_cells hX)
  clear hB hw8 hN7 ho7
  obtain ⟨y0, y1, y2, y3, y4, y5⟩ := hY8.out _ H8.out.2.2
  have hn1 : n1 ≤ 100000000 := by have h1 := H8.out.2.1.bl.len; have h2 := HOK.out.len; have h3 := H8.out.1.nlim; have h4 := HN.out; have h5 : D.l.length = cntL n (limI 160) * 64 := (by rw [← HD.out]; exact loadL_len xs _); have h6 : cntL n (limI 160) ≤ 160 := (by unfold cntL; have : limI 160 = 160 := (by decide); rw [this]; omega); omega
  go_upto_region 11 with (go_at_call 36; refine (rnewest_any A1 n1 c1 none 0 0 [] D w8 H8.out.2.1 HOK.out hn1).mono ?_; rintro e w9 ⟨A9, c9, rfl, hb, hB⟩; rw [NA.out, NX.out.1, NX.out.2.1]; rw [NX.out.2.2] at hb; (have H9 := Aside0.mk (And.intro (H8.out.1.step hB) (And.intro (H8.out.2.1.below hB) ((hB.block _ (Array.getElem?_eq_some_iff.1 H8.out.2.2).1).trans H8.out.2.2)))); (have B9 := Aside0.mk (And.intro (B8.out.1.below hB) (And.intro (B8.out.2.1.below hB) (And.intro (B8.out.2.2.1.below hB) (And.intro (((hB.block _ (Array.getElem?_eq_some_iff.1 B8.out.2.2.2).1).trans B8.out.2.2.2)) (show Bs w9 A9 xcu.length c9 xcu from hb)))))); clear hb hB)
  clear y0 y1 y2 y3 y4 y5
  obtain ⟨o9, ho9⟩ : ∃ o, Obj.cells #[.int .i64 xge, .int .i64 xph, .int .i64 xtg, .int .i64 xtx, .int .i64 xrt, .int .i64 xpg, .int .i64 xli, .slice A9 xcu.length c9] 24 = o := ⟨_, rfl⟩
  rw [ho9]
  have hB := (Below.refl _ w9).alloc (Nat.le_refl _) o9
  (have H10 := Aside0.mk (And.intro (H9.out.1.step hB) (And.intro (H9.out.2.1.below hB) ((hB.block _ (Array.getElem?_eq_some_iff.1 H9.out.2.2).1).trans H9.out.2.2))))
  have B10 := Aside0.mk (And.intro (B9.out.1.below hB) (And.intro (B9.out.2.1.below hB) (And.intro (B9.out.2.2.1.below hB) (And.intro (((hB.block _ (Array.getElem?_eq_some_iff.1 B9.out.2.2.2.1).1).trans B9.out.2.2.2.1)) (And.intro (B9.out.2.2.2.2.below hB) (heap_alloc_new w9 o9))))))
  obtain ⟨w10, hw10⟩ : ∃ X, w9.alloc o9 = X := ⟨_, rfl⟩
  obtain ⟨N9, hN9⟩ : ∃ X, w9.heap.size = X := ⟨_, rfl⟩
  rw [hw10] at H10
  rw [hw10, hN9] at B10
  rw [hw10, hN9]
  have hY9 := Aside0.mk (show ∀ w' : World, w'.heap[N9]? = some o9 → w'.cell? ⟨N9, 0, none⟩ = some (.int .i64 xge) ∧ w'.cell? ⟨N9, 1, none⟩ = some (.int .i64 xph) ∧ w'.cell? ⟨N9, 2, none⟩ = some (.int .i64 xtg) ∧ w'.cell? ⟨N9, 3, none⟩ = some (.int .i64 xtx) ∧ w'.cell? ⟨N9, 4, none⟩ = some (.int .i64 xrt) ∧ w'.cell? ⟨N9, 5, none⟩ = some (.int .i64 xpg) ∧ w'.cell? ⟨N9, 6, none⟩ = some (.int .i64 xli) ∧ w'.cell? ⟨N9, 7, none⟩ = some (.slice A9 xcu.length c9) from fun w' hX => by rw [← ho9] at hX; exact row8_cells hX)
  clear hB hw10 hN9 ho9
  obtain ⟨u0, u1, u2, u3, u4, u5, u6, u7⟩ := hY7.out _ B10.out.2.2.2.1
  obtain ⟨v0, v1, v2, v3, v4, v5, v6, v7⟩ := hY9.out _ B10.out.2.2.2.2.2
  have ms := Aside0.mk (msame_self xge xph xtg xtx xrt xpg xli xcu)
  go_upto_region 13 with (go_at_call 19; with_reducible refine (rmsame_any xge xph xtg xtx xrt xpg xli A7 xcu.length c7 xcu xge xph xtg xtx xrt xpg xli A9 xcu.length c9 xcu w10 B10.out.2.2.1 B10.out.2.2.2.2.1).mono ?_; rintro e w11 ⟨rfl, hB⟩; rw [ms.out]; (have H11 := Aside0.mk (And.intro (H10.out.1.step hB) (And.intro (H10.out.2.1.below hB) ((hB.block _ (Array.getElem?_eq_some_iff.1 H10.out.2.2).1).trans H10.out.2.2)))); (have B11 := Aside0.mk (And.intro (B10.out.1.below hB) (B10.out.2.1.below hB))); clear hB)
  clear u0 u1 u2 u3 u4 u5 u6 u7 v0 v1 v2 v3 v4 v5 v6 v7
  by_cases q1 : id < 0
  · have gq1 : decide (id < 0) = true := decide_eq_true q1
    obtain ⟨z1, z2⟩ : se = 1 ∧ sb = [] := by rw [← E1.out.2.1, ← E1.out.1]; exact ⟨if_pos (by omega), if_pos (by omega)⟩
    subst z1 z2
    clear q1
    go_wp2_with (first
      | (go_at_call 11; with_reducible refine (alive12_any w11).mono ?_; rintro e wz ⟨rfl, hB⟩; (have HZ := Aside0.mk (And.intro (H11.out.1.step hB) (And.intro (B11.out.1.below hB) (B11.out.2.below hB)))); clear hB)
      | fail)
    go_ret
    exact ⟨rfl, HZ.out.1.bel⟩
  have gq1 : decide (id < 0) = false := decide_eq_false q1
  by_cases q2 : many < 1
  · have gq2 : decide (many < 1) = true := decide_eq_true q2
    obtain ⟨z1, z2⟩ : se = 1 ∧ sb = [] := by rw [← E1.out.2.1, ← E1.out.1]; exact ⟨if_pos (by omega), if_pos (by omega)⟩
    subst z1 z2
    clear q2
    go_wp2_with (first
      | (go_at_call 11; with_reducible refine (alive12_any w11).mono ?_; rintro e wz ⟨rfl, hB⟩; (have HZ := Aside0.mk (And.intro (H11.out.1.step hB) (And.intro (B11.out.1.below hB) (B11.out.2.below hB)))); clear hB)
      | fail)
    go_ret
    exact ⟨rfl, HZ.out.1.bel⟩
  have gq2 : decide (many < 1) = false := decide_eq_false q2
  by_cases q3 : 32768 < id
  · have gq3 : decide (32768 < id) = true := decide_eq_true q3
    obtain ⟨z1, z2⟩ : se = 1 ∧ sb = [] := by rw [← E1.out.2.1, ← E1.out.1]; exact ⟨if_pos (by omega), if_pos (by omega)⟩
    subst z1 z2
    clear q3
    go_wp2_with (first
      | (go_at_call 11; with_reducible refine (alive12_any w11).mono ?_; rintro e wz ⟨rfl, hB⟩; (have HZ := Aside0.mk (And.intro (H11.out.1.step hB) (And.intro (B11.out.1.below hB) (B11.out.2.below hB)))); clear hB)
      | fail)
    go_ret
    exact ⟨rfl, HZ.out.1.bel⟩
  have gq3 : decide (32768 < id) = false := decide_eq_false q3
  by_cases q4 : 32768 < many
  · have gq4 : decide (32768 < many) = true := decide_eq_true q4
    obtain ⟨z1, z2⟩ : se = 1 ∧ sb = [] := by rw [← E1.out.2.1, ← E1.out.1]; exact ⟨if_pos (by omega), if_pos (by omega)⟩
    subst z1 z2
    clear q4
    go_wp2_with (first
      | (go_at_call 11; with_reducible refine (alive12_any w11).mono ?_; rintro e wz ⟨rfl, hB⟩; (have HZ := Aside0.mk (And.intro (H11.out.1.step hB) (And.intro (B11.out.1.below hB) (B11.out.2.below hB)))); clear hB)
      | fail)
    go_ret
    exact ⟨rfl, HZ.out.1.bel⟩
  have gq4 : decide (32768 < many) = false := decide_eq_false q4
  have EQ := Aside0.mk (show readE D (4 * id) (4 * many) = se ∧ readB D (4 * id) (4 * many) = sb ∧ readE D (4 * id) 4 = oe ∧ readB D (4 * id) 4 = ob by
    rw [← E1.out.1, ← E1.out.2.1, ← E1.out.2.2.1, ← E1.out.2.2.2]
    unfold someE someB
    rw [if_neg (by omega), if_neg (by omega), if_neg (by omega), if_neg (by omega), Int.mul_comm id 4, Int.mul_comm many 4]
    exact ⟨rfl, rfl, rfl, rfl⟩)
  have w1' : IntKind.i64.wrap (4 * id) = 4 * id := IntWalk.i64_in _ (by omega)
  have w2' : IntKind.i64.wrap (4 * many) = 4 * many := IntWalk.i64_in _ (by omega)
  have HID := Aside0.mk (show 4 * id ≤ 9223372036854775807 by omega)
  clear q1 q2 q3 q4
  obtain ⟨y0, y1, y2, y3, y4, y5⟩ := hY8.out _ H11.out.2.2
  go_upto_region 16 with (go_at_call 22; refine (rread_any A1 n1 c1 none 0 0 [] D (4 * id) (4 * many) w11 H11.out.2.1 HOK.out hn1 HID.out).mono ?_; rintro e w12 ⟨A12, c12, rfl, hb, hB⟩; rw [EQ.out.2.1] at hb; rw [EQ.out.1, EQ.out.2.1, show rv D A1 n1 c1 none 0 0 = #[.int .i64 D.limit, .slice A1 n1 c1, .slice none 0 0, .int .i64 D.ops, .int .i64 D.fuse, .bool D.down] from rfl]; (have H12 := Aside0.mk (And.intro (H11.out.1.step hB) (And.intro (H11.out.2.1.below hB) ((hB.block _ (Array.getElem?_eq_some_iff.1 H11.out.2.2).1).trans H11.out.2.2)))); (have B12 := Aside0.mk (And.intro (B11.out.1.below hB) (And.intro (B11.out.2.below hB) hb))); clear hb hB)
  clear y0 y1 y2 y3 y4 y5
  obtain ⟨o12, ho12⟩ : ∃ o, Obj.cells #[.int .i64 D.limit, .slice A1 n1 c1, .slice none 0 0, .int .i64 D.ops, .int .i64 D.fuse, .bool D.down] 47 = o := ⟨_, rfl⟩
  rw [ho12]
  have hB := (Below.refl _ w12).alloc (Nat.le_refl _) o12
  (have H13 := Aside0.mk (And.intro (H12.out.1.step hB) (And.intro (H12.out.2.1.below hB) ((hB.block _ (Array.getElem?_eq_some_iff.1 H12.out.2.2).1).trans H12.out.2.2))))
  have B13 := Aside0.mk (And.intro (B12.out.1.below hB) (And.intro (B12.out.2.1.below hB) (B12.out.2.2.below hB)))
  obtain ⟨w13, hw13⟩ : ∃ X, w12.alloc o12 = X := ⟨_, rfl⟩
  rw [hw13] at H13 B13 ⊢
  clear hB hw13 ho12
  obtain ⟨y0, y1, y2, y3, y4, y5⟩ := hY8.out _ H13.out.2.2
  go_upto_region 17 with (go_at_call 22; refine (rread_any A1 n1 c1 none 0 0 [] D (4 * id) 4 w13 H13.out.2.1 HOK.out hn1 HID.out).mono ?_; rintro e w14 ⟨A14, c14, rfl, hb, hB⟩; rw [EQ.out.2.2.2] at hb; rw [EQ.out.2.2.1, EQ.out.2.2.2, show rv D A1 n1 c1 none 0 0 = #[.int .i64 D.limit, .slice A1 n1 c1, .slice none 0 0, .int .i64 D.ops, .int .i64 D.fuse, .bool D.down] from rfl]; (have H14 := Aside0.mk (And.intro (H13.out.1.step hB) (And.intro (H13.out.2.1.below hB) ((hB.block _ (Array.getElem?_eq_some_iff.1 H13.out.2.2).1).trans H13.out.2.2)))); (have B14 := Aside0.mk (And.intro (B13.out.1.below hB) (And.intro (B13.out.2.1.below hB) (And.intro (B13.out.2.2.below hB) hb)))); clear hb hB)
  clear y0 y1 y2 y3 y4 y5
  obtain ⟨o14, ho14⟩ : ∃ o, Obj.cells #[.int .i64 D.limit, .slice A1 n1 c1, .slice none 0 0, .int .i64 D.ops, .int .i64 D.fuse, .bool D.down] 47 = o := ⟨_, rfl⟩
  rw [ho14]
  have hB := (Below.refl _ w14).alloc (Nat.le_refl _) o14
  (have H15 := Aside0.mk (And.intro (H14.out.1.step hB) (And.intro (H14.out.2.1.below hB) ((hB.block _ (Array.getElem?_eq_some_iff.1 H14.out.2.2).1).trans H14.out.2.2))))
  have B15 := Aside0.mk (And.intro (B14.out.1.below hB) (And.intro (B14.out.2.1.below hB) (And.intro (B14.out.2.2.1.below hB) (B14.out.2.2.2.below hB))))
  obtain ⟨w15, hw15⟩ : ∃ X, w14.alloc o14 = X := ⟨_, rfl⟩
  rw [hw15] at H15 B15 ⊢
  clear hB hw15 ho14 w1' w2'
  have s1 := Aside0.mk (show (sb == sb) = true from beq_self_eq_true sb)
  have s2 := Aside0.mk (show (ob == ob) = true from beq_self_eq_true ob)
  go_wp2_with (first
    | (go_at_call 11; with_reducible refine (alive12_any w15).mono ?_; rintro e w16 ⟨rfl, hB⟩; (have HZ := Aside0.mk (And.intro (H15.out.1.step hB) (And.intro (B15.out.1.below hB) (And.intro (B15.out.2.1.below hB) (And.intro (B15.out.2.2.1.below hB) (B15.out.2.2.2.below hB)))))); clear hB)
    | (go_at_call 37; with_reducible refine (equal8_any A5 sb.length c5 sb A12 sb.length c12 sb w16 HZ.out.2.1 HZ.out.2.2.2.1).mono ?_; rintro e w17 ⟨rfl, rfl⟩; rw [s1.out])
    | (go_at_call 37; with_reducible refine (equal8_any A6 ob.length c6 ob A14 ob.length c14 ob w16 HZ.out.2.2.1 HZ.out.2.2.2.2).mono ?_; rintro e w17 ⟨rfl, rfl⟩; rw [s2.out])
    | fail)
  go_ret
  exact ⟨rfl, HZ.out.1.bel⟩
end Go.Proofs.Ythhalmjapiempaa
