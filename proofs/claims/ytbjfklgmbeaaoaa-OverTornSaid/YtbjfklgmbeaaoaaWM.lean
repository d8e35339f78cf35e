/- The law's own small example: a value in two pages. -/
import Derived.Test.YtbjfklgmbeaaoaaWL
set_option linter.unusedVariables false
set_option linter.unusedSimpArgs false
namespace Go.Proofs.Ytbjfklgmbeaaoaa
open Go.RowKit

def alV : List UInt8 := List.replicate 300 7
def alP : List (List UInt8) := chL 1 alV [3, 2]
def alE (id many : Int) : Int := if (id = 3 ∨ id = 2) ∧ many = 1 then 0 else 11
def alB (id many : Int) : List UInt8 := if id = 3 ∧ many = 1 then alP.getD 0 [] else if id = 2 ∧ many = 1 then alP.getD 1 [] else []
def alR : RP := ⟨alE, alB⟩
theorem al1 : ovE 1 alV [3, 2] = 0 := by decide +kernel
theorem al2 : odE alR 3 300 = 0 := by decide +kernel
theorem al3 : odG alR 3 300 = 1 := by decide +kernel
theorem al4 : odV alR 3 300 = alV := by decide +kernel
theorem al5 : odZ alR 3 300 = [3, 2] := by decide +kernel
theorem al6 : ovL 1 alV [3, 2] = alP := by unfold ovL; rw [al1, if_pos rfl, if_pos (by decide)]; rfl
theorem al7 : ovM 3 241 = 2 := by decide
theorem alR_b3 : alB 3 1 = alP.getD 0 [] := by unfold alB; rw [if_pos ⟨rfl, rfl⟩]
theorem alR_b2 : alB 2 1 = alP.getD 1 [] := by unfold alB; rw [if_neg (by decide), if_pos ⟨rfl, rfl⟩]
theorem alR_e3 : alE 3 1 = 0 := by unfold alE; rw [if_pos (by decide)]
theorem alR_e2 : alE 2 1 = 0 := by unfold alE; rw [if_pos (by decide)]
/-- The example's reader. -/
theorem alive1_any (b L : Nat) (A : Option Addr) (c : Nat) (hs : List SH) (id many : Int) (W : World) (hL : W.heap[L]? = some (.cells #[.slice A 2 c] 43)) (hO : Oc W b 27 1 A 2 c (shl hs)) (hP : Pgf W b hs alP) :
    Calls Try.prog 43 #[.int .i64 id, .int .i64 many, .pointer (some ⟨L, 0, none⟩)] W fun e W' => ∃ A5 c5, e = .returned (.tuple #[.slice A5 (alB id many).length c5, .int .i64 (alE id many)]) ∧ Bs W' A5 (alB id many).length c5 (alB id many) ∧ (∀ ad, A5 = some ad → b ≤ ad.block) ∧ W = W' := by
  have z0 : W.cell? ⟨L, 0, none⟩ = some (.slice A 2 c) := by rw [cell_of_row _ _ _ _ _ _ hL]; rfl
  have hl : hs.length = 2 := by have := hO.len; rw [shl_len] at this; omega
  obtain ⟨ga, rfl, _, _⟩ := hO.head (by omega)
  have HH := Aside0.mk (And.intro hO (And.intro hP hl))
  clear hL hO hP hl
  by_cases q : (id = 3 ∨ id = 2) ∧ many = 1
  · obtain ⟨q1, rfl⟩ := q
    rcases q1 with rfl | rfl
    · obtain ⟨ad, ⟨pa, pn, pc⟩, had, hpj, k1⟩ := HH.out.1.rc.sh HH.out.2.2 0 (by omega)
      injection had with had
      subst had
      obtain ⟨qq, hq, hbq, hge⟩ := HH.out.2.1.each 0 _ hpj
      have hb2 : Bs W pa pn pc qq := hbq
      have hqe : alB 3 1 = qq := alR_b3.trans (getD_at hq)
      have HQ := Aside0.mk (And.intro hb2 (And.intro hqe hge))
      unfold shv at k1
      simp only [add_plain] at k1
      clear hpj hq hbq hge hb2 hqe
      go_enter Try.func43, Try.ntmps43
      go_wp2_with fail
      go_ret2
      rw [HQ.out.2.1, alR_e3, HQ.out.1.len]
      exact ⟨pa, pc, rfl, HQ.out.1, HQ.out.2.2, rfl⟩
    · obtain ⟨ad, ⟨pa, pn, pc⟩, had, hpj, k1⟩ := HH.out.1.rc.sh HH.out.2.2 1 (by omega)
      injection had with had
      subst had
      obtain ⟨qq, hq, hbq, hge⟩ := HH.out.2.1.each 1 _ hpj
      have hb2 : Bs W pa pn pc qq := hbq
      have hqe : alB 2 1 = qq := alR_b2.trans (getD_at hq)
      have HQ := Aside0.mk (And.intro hb2 (And.intro hqe hge))
      unfold shv at k1
      simp only [add_plain] at k1
      clear hpj hq hbq hge hb2 hqe
      go_enter Try.func43, Try.ntmps43
      go_wp2_with fail
      go_ret2
      rw [HQ.out.2.1, alR_e2, HQ.out.1.len]
      exact ⟨pa, pc, rfl, HQ.out.1, HQ.out.2.2, rfl⟩
  · have he : alE id many = 11 := by unfold alE; rw [if_neg q]
    have hb : alB id many = [] := by
      unfold alB
      rw [if_neg (fun h => q ⟨.inl h.1, h.2⟩), if_neg (fun h => q ⟨.inr h.1, h.2⟩)]
    have HQ := Aside0.mk (And.intro he hb)
    clear he hb
    by_cases q1 : id < 2
    · have d1 : decide (id < 2) = true := decide_eq_true q1
      clear q
      go_enter Try.func43, Try.ntmps43
      go_wp2_with fail
      go_ret2
      rw [HQ.out.1, HQ.out.2]
      exact ⟨none, 0, rfl, Bs.nil _ _ _ (by omega), (fun _ e => by cases e), rfl⟩
    · have d1 : decide (id < 2) = false := decide_eq_false q1
      by_cases q2 : 3 < id
      · have d2 : decide (3 < id) = true := decide_eq_true q2
        clear q
        go_enter Try.func43, Try.ntmps43
        go_wp2_with fail
        go_ret2
        rw [HQ.out.1, HQ.out.2]
        exact ⟨none, 0, rfl, Bs.nil _ _ _ (by omega), (fun _ e => by cases e), rfl⟩
      · have d2 : decide (3 < id) = false := decide_eq_false q2
        have d3 : (many != 1) = true := bne_iff_ne.2 (fun h => q ⟨by omega, h⟩)
        clear q
        go_enter Try.func43, Try.ntmps43
        go_wp2_with fail
        go_ret2
        rw [HQ.out.1, HQ.out.2]
        exact ⟨none, 0, rfl, Bs.nil _ _ _ (by omega), (fun _ e => by cases e), rfl⟩
theorem al_rdr (b L t : Nat) (A : Option Addr) (c : Nat) (hs : List SH) (w0 : World) (htb : t < b) (htL : L ≠ t) (ht : t < w0.heap.size) (hL : w0.heap[L]? = some (.cells #[.slice A 2 c] 43)) (hO : Oc w0 b 27 1 A 2 c (shl hs)) (hP : Pgf w0 b hs alP) :
    Rdr w0 43 #[.pointer (some ⟨L, 0, none⟩)] (fun a b => #[.int .i64 a, .int .i64 b, .pointer (some ⟨L, 0, none⟩)]) t alR (fun _ _ => True) :=
  ⟨.inl ⟨rfl, _, rfl, rfl⟩, ht, fun k id many W ho _ _ _ => by
    refine (alive1_any b L A c hs id many W ((ho.block L (Array.getElem?_eq_some_iff.1 hL).1 htL).trans hL) (hO.only ho (fun i e => by have := hO.lo i e; omega)) (hP.only ho htb)).mono ?_
    rintro e W' ⟨A5, c5, he, hb, hge, rfl⟩
    exact ⟨A5, c5, he, hb, fun ad e2 _ => by have := hge ad e2; omega, trivial, OnlyB.refl _ _⟩, fun _ _ _ _ h => h, fun id many h => by
    have h2 : alE id many = 0 := h
    unfold alE at h2
    split at h2
    · omega
    · cases h2⟩
set_option maxHeartbeats 8000000 in
set_option maxRecDepth 100000 in
theorem alive08_any (w : World) : Calls Try.prog 12 #[] w fun e w' => e = .returned (.bool true) ∧ Below w.heap.size w w' := by
  have hB1 := (Below.refl _ w).alloc (Nat.le_refl _) (.cells #[.int .u8 7] 5)
  have hb1 : Bs (w.alloc (.cells #[.int .u8 7] 5)) (some ⟨w.heap.size, 0, none⟩) 1 1 [7] := Bs.lit w w.heap.size rfl _ _ _ 1 1 [7] (by rfl) rfl (by omega) (by omega) (by omega)
  have H1 := Aside0.mk (And.intro hb1 (And.intro hB1 (show w.heap.size < (w.alloc (.cells #[.int .u8 7] 5)).heap.size by simp)))
  clear hB1 hb1
  go_enter Try.func12, Try.ntmps12
  go_upto_region 2 with (go_at_call 42; refine (repeat_one 300 _ 1 7 _ H1.out.1 (by omega) (by omega) (fun W => mul_300 W)).mono ?_; rintro e w2 ⟨gv, rfl, hg1, hg2, hb, hB⟩; (have H2 := Aside0.mk (And.intro hb (And.intro (below_then H1.out.2.1 H1.out.2.1.size hB) (And.intro (show w.heap.size < w2.heap.size by have := H1.out.2.2; have := hB.size; omega) (show w.heap.size < gv by have := H1.out.2.2; omega))))); clear hb hB hg1 hg2)
  have hB3 := (Below.refl _ w2).alloc (Nat.le_refl _) (.cells #[.int .i64 3, .int .i64 2] 3)
  have hz3 := rc_lit1 (W := w2) [3, 2] 2 rfl (by omega) #[.int .i64 3, .int .i64 2] 3 (0, 0) rfl
  have hv3 := H2.out.1.below hB3
  have H3 := Aside0.mk (And.intro hz3 (And.intro hv3 (below_then H2.out.2.1 H2.out.2.1.size hB3)))
  clear hz3 hv3 hB3
  go_upto_region 3 with (go_at_call 21; refine (oencode_any 1 (some ⟨gv, 0, none⟩) 300 300 alV _ 2 2 [3, 2] _ H3.out.2.1 H3.out.1 (by intro z hz; simp at hz; omega)).mono ?_; rintro e w4 ⟨A4, c4, hs4, rfl, hO4, hP4, hB4⟩; rw [al6] at *; rw [al1]; (have H4 := Aside0.mk (And.intro hO4 (And.intro hP4 (And.intro (below_then H3.out.2.2 H3.out.2.2.size hB4) (H3.out.2.1.below hB4))))); clear hO4 hP4 hB4)
  have hl4 : alP.length = 2 := chL_len _ _ _
  rw [hl4] at H4
  rw [hl4]
  have hB5 := (Below.refl _ w4).alloc (Nat.le_refl _) (.cells #[.slice A4 2 c4] 43)
  have hr5 := heap_alloc_new w4 (.cells #[.slice A4 2 c4] 43)
  have hb4 : w.heap.size < (w2.alloc (.cells #[.int .i64 3, .int .i64 2] 3)).heap.size := by have := H2.out.2.2.1; simp; omega
  have hn4 : w.heap.size < w4.heap.size := by
    obtain ⟨q, _, h1, h2⟩ := H4.out.1.head (by omega)
    omega
  have hO5 := H4.out.1.below hB5
  have hP5 := H4.out.2.1.below hB5
  have hV5 := H4.out.2.2.2.below hB5
  have hB6 := below_then H4.out.2.2.1 H4.out.2.2.1.size hB5
  have hs5 : w.heap.size < (w4.alloc (.cells #[.slice A4 2 c4] 43)).heap.size := by simp; omega
  obtain ⟨w5, hw5⟩ : ∃ X, w4.alloc (.cells #[.slice A4 2 c4] 43) = X := ⟨_, rfl⟩
  obtain ⟨L, hL⟩ : ∃ X, w4.heap.size = X := ⟨_, rfl⟩
  obtain ⟨b, hb⟩ : ∃ X, (w2.alloc (.cells #[.int .i64 3, .int .i64 2] 3)).heap.size = X := ⟨_, rfl⟩
  rw [hw5] at hr5 hO5 hP5 hV5 hB6 hs5
  rw [hL] at hr5 hn4
  rw [hb] at hb4 hO5 hP5
  rw [hw5, hL]
  have H5 := Aside0.mk (And.intro hr5 (And.intro hO5 (And.intro hP5 (And.intro hV5 hB6))))
  have HRD := Aside0.mk (al_rdr b L w.heap.size A4 c4 hs4 w5 hb4 (by omega) hs5 hr5 hO5 hP5)
  clear hB5 hr5 hO5 hP5 hV5 hB6 hw5 hL hb H4 H3
  go_upto_region 4 with (go_at_call 16; refine (odecode_any HRD.out 0 3 300 w5 (OnlyB.refl _ _) trivial ⟨by omega, by omega⟩ ⟨by omega, by omega⟩).mono ?_; intro e w6 hD; (obtain ⟨A7, c7, A8, c8, k8, he, hO6, hI6, _, _, ho6⟩ := hD); (rw [al3, al2, al4, al5] at he); (rw [al4] at hO6); (rw [al5] at hI6); subst he; (have H6 := Aside0.mk (And.intro hO6 (And.intro hI6 ho6))); clear hO6 hI6 ho6)
  have hm6 := (H6.out.2.2.block L (Array.getElem?_eq_some_iff.1 H5.out.1).1 (by omega)).trans H5.out.1
  have zL : w6.cell? ⟨L, 0, none⟩ = some (.slice A4 2 c4) := by rw [cell_of_row _ _ _ _ _ _ hm6]; rfl
  have hVb : Bs w6 (some ⟨gv, 0, none⟩) 300 300 alV := by
    refine Bs.only H5.out.2.2.2.1 H6.out.2.2 (fun ad e _ => ?_)
    injection e with e
    subst e
    show gv ≠ w.heap.size
    have := H2.out.2.2.2
    omega
  have HVB := Aside0.mk hVb
  have HBF := Aside0.mk (H6.out.2.2.below H5.out.2.2.2.2 (Nat.le_refl _) (Nat.le_refl _))
  obtain ⟨ad8, z8, had8, hz8, k8⟩ := H6.out.2.1.rc.int 1 (by decide)
  obtain ⟨g8, hg8, _, _⟩ := H6.out.2.1.head (by decide)
  rw [hg8] at had8
  injection had8 with had8
  subst had8
  obtain rfl : z8 = 2 := by
    simp at hz8
    omega
  rw [add_plain] at k8
  subst hg8
  have hEqV : (alV == alV) = true := beq_self_eq_true _
  have HEV := Aside0.mk hEqV
  clear hVb hm6 hz8 hEqV hl4
  have hla : alV.length = 300 := by rw [alV, List.length_replicate]
  rw [hla]
  go_wp2_with (first
    | (go_at_call 20; refine (equal8_any (some ⟨gv, 0, none⟩) 300 300 alV A7 300 c7 alV w6 HVB.out (by have h := H6.out.1.bs; rw [hla] at h; exact h)).mono ?_; rintro e w7 ⟨rfl, rfl⟩; rw [HEV.out])
    | (go_at_call 11; refine (overMany_any 3 241 _).mono ?_; rintro e w8 ⟨rfl, hB⟩; rw [al7]; (have H8 := Aside0.mk (below_then HBF.out HBF.out.size hB)); clear hB)
    | (go_at_call 13; first | (refine (single_any 2 w8).mono ?_; rintro e w9 ⟨rfl, rfl⟩; rw [show sgB 2 = true from rfl]) | (refine (single_any 3 w8).mono ?_; rintro e w9 ⟨rfl, rfl⟩; rw [show sgB 3 = false from rfl])))
  go_ret
  exact ⟨rfl, H8.out⟩
end Go.Proofs.Ytbjfklgmbeaaoaa
