/- The walk of the law PagerRight. -/
import Derived.Test.YthhalmjapiempaaNH
import Derived.Test.YthhalmjapiempaaNE
set_option linter.unusedVariables false
set_option linter.unusedSimpArgs false
namespace Go.Proofs.Ythhalmjapiempaa
open Go.RowKit

/-- A box, a row of writes and a cursor, that stand. -/
structure T1 (W : World) (A : Option Addr) (n c : Nat) (hs : List (Int × Option Addr × Nat × Nat)) (A' : Option Addr) (cu : List UInt8) (c' : Nat) (N0 : Nat) (bx : Obj) (X : World) : Prop where
  bel : Below W.heap.size W X
  rl : Rl X A n c hs
  cu : Bs X A' cu.length c' cu
  r0 : X.heap[N0]? = some bx
theorem T1.step {W : World} {A : Option Addr} {n c : Nat} {hs : List (Int × Option Addr × Nat × Nat)} {A' : Option Addr} {cu : List UInt8} {c' : Nat} {N0 : Nat} {bx : Obj} {X Y : World} (h : T1 W A n c hs A' cu c' N0 bx X) (hB : Below X.heap.size X Y) : T1 W A n c hs A' cu c' N0 bx Y :=
  ⟨below_then h.bel h.bel.size hB, h.rl.below hB, h.cu.below hB, (hB.block _ (Array.getElem?_eq_some_iff.1 h.r0).1).trans h.r0⟩
theorem sizeWr (w : World) : (sizeOf (Try.prog.elem 34)).run Try.prog w = .ok 2 w := by
  have e : Try.prog.elem 34 = 65 := by simp [Program.elem, Try.underlying34]
  rw [e]
  obtain ⟨i, hi, hz⟩ := Option.map_eq_some_iff.1 infoW
  simp only [Prod.mk.injEq] at hz
  simp [sizeOf, typeInfo, hi, hz.2.1]
theorem undWr : Try.prog.underlying 34 = some (.slice (Try.prog.elem 34)) := by
  have e : Try.prog.elem 34 = 65 := by simp [Program.elem, Try.underlying34]
  rw [e]; exact Try.underlying34
theorem slWr_l (w : World) (A : Option Addr) (n c a : Nat) (h : a ≤ n) :
    (Instr.slice 34 (.slice A n c) (some (.int .i64 (a : Int))) none none).run Try.prog w = .ok (.slice (cutC A c a 2) (n - a) (c - a)) w := by
  rw [run_slice_l w _ A n c undWr .i64 (a : Int) (by omega) (by omega), sizeWr]
  simp only [sliced, cutC, Result.andThen]
  rw [show ((a : Int)).toNat = a by omega]
theorem slWr_h (w : World) (A : Option Addr) (n c a : Nat) (h : a ≤ c) :
    (Instr.slice 34 (.slice A n c) none (some (.int .i64 (a : Int))) none).run Try.prog w = .ok (.slice A a c) w := by
  rw [run_slice_h w _ A n c undWr .i64 (a : Int) (by omega) (by omega), sizeWr]
  simp [sliced, Result.andThen, Addr.add]
theorem Rc.heads {w : World} {A : Option Addr} {n c : Nat} {hs : List (Int × Option Addr × Nat × Nat)} (h : Rc w 2 A n c (wv hs)) (hl : hs.length = n) (k : Nat) (hk : k ≤ n) : Rc w 2 A k c (wv (hs.take k)) := by
  refine ⟨by rw [wv_len, List.length_take]; omega, by have := h.le; omega, h.cap, by have := h.lim; omega, wv_one _, fun h0 => ?_⟩
  obtain ⟨ad, e, hx⟩ := h.cells (by omega)
  refine ⟨ad, e, fun j u hu => hx j u ?_⟩
  rw [wv_take, List.getElem?_take] at hu
  split at hu
  · exact hu
  · cases hu
theorem Rc.tails {w : World} {A : Option Addr} {n c : Nat} {hs : List (Int × Option Addr × Nat × Nat)} (h : Rc w 2 A n c (wv hs)) (hl : hs.length = n) (k : Nat) (hk : k ≤ n) : Rc w 2 (cutC A c k 2) (n - k) (c - k) (wv (hs.drop k)) := by
  have := h.cut k (n - k) (by omega)
  rwa [← wv_drop, List.take_of_length_le (by rw [wv_len, List.length_drop]; omega)] at this
theorem ocw_lit {W : World} (base : Nat) (hb : base ≤ W.heap.size) (hs : List (Int × Option Addr × Nat × Nat)) (n : Nat) (hn : hs.length = n) (hl : n ≤ 1000000000) (C : Array Value) (hC : C = (wv hs).toArray) : Oc (W.alloc (.cells C 65)) base 65 2 (some ⟨W.heap.size, 0, none⟩) n n (wv hs) := by
  subst hC
  refine ⟨?_, wv_one hs, hl⟩
  have := World.ownsRow_lit (base := base) (e := 65) (size := 2) W (wv hs).toArray n hb (by simp [maxLen]; omega) (by simp [wv_len, hn])
  simpa using this
set_option maxHeartbeats 32000000 in
set_option maxRecDepth 100000 in
theorem pagerRight_any (A : Option Addr) (n c : Nat) (hs : List (Int × Option Addr × Nat × Nat)) (l : List (Int × List UInt8)) (ge ph tg tx rt pg li : Int) (A' : Option Addr) (cn c' : Nat) (cu : List UInt8) (kI : Int) (W : World) (hr : Wrs W A n c hs l) (hm : Bs W A' cn c' cu) (hk : -9223372036854775808 ≤ kI ∧ kI ≤ 9223372036854775807) :
    Calls Try.prog 5 #[.slice A n c, .agg #[.int .i64 ge, .int .i64 ph, .int .i64 tg, .int .i64 tx, .int .i64 rt, .int .i64 pg, .int .i64 li, .slice A' cn c'], .int .i64 kI] W fun e w' => e = .returned (.bool true) ∧ Below W.heap.size W w' := by
  obtain rfl := hm.len
  obtain ⟨bx, hbx⟩ : ∃ b : Obj, Obj.cells #[.int .i64 ge, .int .i64 ph, .int .i64 tg, .int .i64 tx, .int .i64 rt, .int .i64 pg, .int .i64 li, .slice A' cu.length c'] 24 = b := ⟨_, rfl⟩
  have hb0 : Below W.heap.size W (W.alloc bx) := (Below.refl _ W).alloc (Nat.le_refl _) bx
  have HT := Aside0.mk (show T1 W A n c hs A' cu c' W.heap.size bx (W.alloc bx) from ⟨hb0, hr.rl.below hb0, hm.below hb0, heap_alloc_new W bx⟩)
  have HL := Aside0.mk (And.intro hr.hs.len (And.intro hr.rl.len hr.hs.hl))
  have hcl := hm.lim
  have hnl := hr.rl.lim
  replace hbx := Aside0.mk hbx
  clear hr hm hb0
  go_enter Try.func5, Try.ntmps5
  go_upto_region 1 with fail
  rw [hbx.out]
  obtain ⟨w1, hw1⟩ : ∃ X, W.alloc bx = X := ⟨_, rfl⟩
  obtain ⟨N0, hN0⟩ : ∃ X, W.heap.size = X := ⟨_, rfl⟩
  rw [hw1, hN0] at HT
  rw [hw1, hN0]
  clear hw1 hN0
  have hY := Aside0.mk (show ∀ w' : World, w'.heap[N0]? = some bx → w'.cell? ⟨N0, 0, none⟩ = some (.int .i64 ge) ∧ w'.cell? ⟨N0, 1, none⟩ = some (.int .i64 ph) ∧ w'.cell? ⟨N0, 2, none⟩ = some (.int .i64 tg) ∧ w'.cell? ⟨N0, 3, none⟩ = some (.int .i64 tx) ∧ w'.cell? ⟨N0, 4, none⟩ = some (.int .i64 rt) ∧ w'.cell? ⟨N0, 5, none⟩ = some (.int .i64 pg) ∧ w'.cell? ⟨N0, 6, none⟩ = some (.int .i64 li) ∧ w'.cell? ⟨N0, 7, none⟩ = some (.slice A' cu.length c') from fun w' hX => by rw [← hbx.out] at hX; exact row8_cells hX)
  clear hbx
  obtain ⟨b1, hb1⟩ : ∃ b, fewB l ⟨ge, ph, tg, tx, rt, pg, li, cu⟩ = b := ⟨_, rfl⟩
  replace hb1 := Aside0.mk hb1
  replace hcl := Aside0.mk hcl
  have F1 := Aside0.mk (show b1 = true → n ≤ 12 ∧ pg ≤ 40 from fun e => by
    obtain ⟨f1, f2, f3, f4⟩ := of_decide_eq_true (hb1.out.trans e)
    have := HL.out.1
    have := HL.out.2.1
    have f3 : pg ≤ 40 := f3
    omega)
  obtain ⟨y0, y1, y2, y3, y4, y5, y6, y7⟩ := hY.out _ HT.out.r0
  cases b1 with
  | false =>
    go_wp2_with (first
      | (go_at_call 11; refine (alive12_any w2).mono ?_; rintro e3 w3 ⟨rfl, hB⟩; (have HE := Aside0.mk (H2.out.step hB)); clear hB)
      | (go_at_call 9; refine (few12_any A n c hs l ⟨ge, ph, tg, tx, rt, pg, li, cu⟩ A' c' w1 HT.out.rl HL.out.2.2 hcl.out).mono ?_; rintro e2 w2 ⟨rfl, hB⟩; rw [hb1.out]; (have H2 := Aside0.mk (HT.out.step hB)); clear hB; clear y0 y1 y2 y3 y4 y5 y6 y7; (obtain ⟨y0, y1, y2, y3, y4, y5, y6, y7⟩ := hY.out _ H2.out.r0))
      | fail)
    go_ret
    exact ⟨rfl, HE.out.bel⟩
  | true =>
    replace F1 := Aside0.mk (F1.out rfl)
    by_cases q1 : n = 0
    · have g1 : ((n : Int) == 0) = true := by rw [q1]; rfl
      clear q1
      go_wp2_with (first
        | (go_at_call 11; refine (alive12_any w2).mono ?_; rintro e3 w3 ⟨rfl, hB⟩; (have HE := Aside0.mk (H2.out.step hB)); clear hB)
        | (go_at_call 9; refine (few12_any A n c hs l ⟨ge, ph, tg, tx, rt, pg, li, cu⟩ A' c' w1 HT.out.rl HL.out.2.2 hcl.out).mono ?_; rintro e2 w2 ⟨rfl, hB⟩; rw [hb1.out]; (have H2 := Aside0.mk (HT.out.step hB)); clear hB; clear y0 y1 y2 y3 y4 y5 y6 y7; (obtain ⟨y0, y1, y2, y3, y4, y5, y6, y7⟩ := hY.out _ H2.out.r0))
        | fail)
      go_ret
      exact ⟨rfl, HE.out.bel⟩
    have g1 : ((n : Int) == 0) = false := beq_eq_false_iff_ne.2 (by omega)
    by_cases q2 : kI < 0
    · have g2 : decide (kI < 0) = true := decide_eq_true q2
      go_wp2_with (first
        | (go_at_call 11; refine (alive12_any w2).mono ?_; rintro e3 w3 ⟨rfl, hB⟩; (have HE := Aside0.mk (H2.out.step hB)); clear hB)
        | (go_at_call 9; refine (few12_any A n c hs l ⟨ge, ph, tg, tx, rt, pg, li, cu⟩ A' c' w1 HT.out.rl HL.out.2.2 hcl.out).mono ?_; rintro e2 w2 ⟨rfl, hB⟩; rw [hb1.out]; (have H2 := Aside0.mk (HT.out.step hB)); clear hB; clear y0 y1 y2 y3 y4 y5 y6 y7; (obtain ⟨y0, y1, y2, y3, y4, y5, y6, y7⟩ := hY.out _ H2.out.r0))
        | fail)
      go_ret
      exact ⟨rfl, HE.out.bel⟩
    have g2 : decide (kI < 0) = false := decide_eq_false q2
    obtain ⟨k, rfl⟩ : ∃ k : Nat, kI = (k : Int) := ⟨kI.toNat, by omega⟩
    by_cases q3 : n ≤ k
    · have g3 : decide (n ≤ k) = true := decide_eq_true q3
      go_wp2_with (first
        | (go_at_call 11; refine (alive12_any w2).mono ?_; rintro e3 w3 ⟨rfl, hB⟩; (have HE := Aside0.mk (H2.out.step hB)); clear hB)
        | (go_at_call 9; refine (few12_any A n c hs l ⟨ge, ph, tg, tx, rt, pg, li, cu⟩ A' c' w1 HT.out.rl HL.out.2.2 hcl.out).mono ?_; rintro e2 w2 ⟨rfl, hB⟩; rw [hb1.out]; (have H2 := Aside0.mk (HT.out.step hB)); clear hB; clear y0 y1 y2 y3 y4 y5 y6 y7; (obtain ⟨y0, y1, y2, y3, y4, y5, y6, y7⟩ := hY.out _ H2.out.r0))
        | fail)
      go_ret
      exact ⟨rfl, HE.out.bel⟩
    have g3 : decide (n ≤ k) = false := decide_eq_false q3
    have HK := Aside0.mk (show k < n by omega)
    clear q1 q2 q3
    go_upto_region 3 with (go_at_call 9; refine (few12_any A n c hs l ⟨ge, ph, tg, tx, rt, pg, li, cu⟩ A' c' w1 HT.out.rl HL.out.2.2 hcl.out).mono ?_; rintro e2 w2 ⟨rfl, hB⟩; rw [hb1.out]; (have H2 := Aside0.mk (HT.out.step hB)); clear hB; clear y0 y1 y2 y3 y4 y5 y6 y7; (obtain ⟨y0, y1, y2, y3, y4, y5, y6, y7⟩ := hY.out _ H2.out.r0))
    clear g1 g2 g3 y0 y1 y2 y3 y4 y5 y6 y7
    go_upto_region 4 with (go_at_call 15; refine (wof_any A n c hs w2 (H2.out.rl.rc (by have := F1.out; omega)) HL.out.2.1).mono ?_; rintro e w3 ⟨A1, c1, rfl, hO, hB⟩; (have H3 := Aside0.mk (And.intro (H2.out.step hB) hO.rc)); clear hO hB)
    obtain ⟨w4, hw4⟩ : ∃ X, w3.drew = X := ⟨_, rfl⟩
    have H4 := Aside0.mk (show T1 W A n c hs A' cu c' N0 bx w4 ∧ Rc w4 2 A1 n c1 (wv hs) from by rw [← hw4]; exact ⟨H3.out.1.step (below_drew (Below.refl _ _)), H3.out.2.below (below_drew (Below.refl _ _))⟩)
    obtain ⟨NB, hNB⟩ : ∃ x, w4.heap.size = x := ⟨_, rfl⟩
    have t1 : ∀ W : World, (Instr.slice 34 (.slice A1 n c1) (some (.int .i64 (k : Int))) none none).run Try.prog W = .ok (.slice (cutC A1 c1 k 2) (n - k) (c1 - k)) W := fun W => slWr_l W A1 n c1 k (Nat.le_of_lt HK.out)
    have t2 : ∀ W : World, (Instr.slice 34 (.slice A1 n c1) none (some (.int .i64 (k : Int))) none).run Try.prog W = .ok (.slice A1 k c1) W := fun W => slWr_h W A1 n c1 k (by have := HK.out; have := H4.out.2.le; omega)
    obtain ⟨AT, hAT⟩ : ∃ x, cutC A1 c1 k 2 = x := ⟨_, rfl⟩
    obtain ⟨nT, hnT⟩ : ∃ x, n - k = x := ⟨_, rfl⟩
    obtain ⟨cT, hcT⟩ : ∃ x, c1 - k = x := ⟨_, rfl⟩
    have HTL := Aside0.mk (show Rc w4 2 AT nT cT (wv (hs.drop k)) from by rw [← hAT, ← hnT, ← hcT]; exact H4.out.2.tails HL.out.2.1 k (Nat.le_of_lt HK.out))
    have HHD := Aside0.mk (H4.out.2.heads HL.out.2.1 k (Nat.le_of_lt HK.out))
    have HNT := Aside0.mk (show nT + k = n by have := HK.out; omega)
    rw [hAT, hnT, hcT] at t1
    clear hAT hcT hnT
    refine wp_region_M (fun j => false) (fun _ => True) (by kernel_rfl) ?_
    rw [hw4]
    refine wpAnyM_take0 (i := 1) (v := ?_) (by simp only [List.getElem?_toArray, List.getElem?_cons_succ, List.getElem?_cons_zero]; rfl) (by kernel_rfl) (by kernel_rfl) (by kernel_rfl) (by rfl) (by exact fun _ _ _ h => h) (Or.inl ⟨by rfl, ?_⟩) ?_
    rotate_left
    · (intro w' _; go_simp; try with_reducible rfl)
    try simp only [Act.put, List.setIfInBounds_toArray, List.set_cons_zero, List.set_cons_succ]
    refine wpAnyM_take0 (i := 2) (v := ?_) (by simp only [List.getElem?_toArray, List.getElem?_cons_succ, List.getElem?_cons_zero]; rfl) (by kernel_rfl) (by kernel_rfl) (by kernel_rfl) (by rfl) (by exact fun _ _ _ h => h) (Or.inl ⟨by rfl, ?_⟩) ?_
    rotate_left
    · (intro w' _; go_simp; try with_reducible rfl)
    try simp only [Act.put, List.setIfInBounds_toArray, List.set_cons_zero, List.set_cons_succ]
    refine wpAnyM_take0 (i := 3) (v := ?_) (by simp only [List.getElem?_toArray, List.getElem?_cons_succ, List.getElem?_cons_zero]; rfl) (by kernel_rfl) (by kernel_rfl) (by kernel_rfl) (by rfl) (by exact fun _ _ _ h => h) (Or.inl ⟨by rfl, ?_⟩) ?_
    rotate_left
    · (intro w' _; go_simp; try with_reducible rfl)
    try simp only [Act.put, List.setIfInBounds_toArray, List.set_cons_zero, List.set_cons_succ]
    refine wpAnyM_take0 (i := 5) (v := ?_) (by simp only [List.getElem?_toArray, List.getElem?_cons_succ, List.getElem?_cons_zero]; rfl) (by kernel_rfl) (by kernel_rfl) (by kernel_rfl) (by rfl) (by exact fun _ _ _ h => h) (Or.inl ⟨by rfl, ?_⟩) ?_
    rotate_left
    · (intro w' _; go_simp; try with_reducible rfl)
    try simp only [Act.put, List.setIfInBounds_toArray, List.set_cons_zero, List.set_cons_succ]
    refine wpAnyM_take0 (i := 6) (v := ?_) (by simp only [List.getElem?_toArray, List.getElem?_cons_succ, List.getElem?_cons_zero]; rfl) (by kernel_rfl) (by kernel_rfl) (by kernel_rfl) (by rfl) (by exact fun _ _ _ h => h) (Or.inl ⟨by rfl, ?_⟩) ?_
    rotate_left
    · (intro w' _; go_simp; try with_reducible rfl)
    try simp only [Act.put, List.setIfInBounds_toArray, List.set_cons_zero, List.set_cons_succ]
    refine wpAnyM_take0 (i := 7) (v := ?_) (by simp only [List.getElem?_toArray, List.getElem?_cons_succ, List.getElem?_cons_zero]; rfl) (by kernel_rfl) (by kernel_rfl) (by kernel_rfl) (by rfl) (by exact fun _ _ _ h => h) (Or.inl ⟨by rfl, ?_⟩) ?_
    rotate_left
    · (intro w' _; go_simp; try with_reducible rfl)
    try simp only [Act.put, List.setIfInBounds_toArray, List.set_cons_zero, List.set_cons_succ]
    refine wpAnyM_one (i := 0) (by kernel_rfl) (by simp only [List.getElem?_toArray, List.getElem?_cons_succ, List.getElem?_cons_zero]; rfl) ?_
    have HO5 := Aside0.mk (Oc.lit0 w4 NB 65 2 (by rw [hNB]; exact Nat.le_refl _))
    have HB5 := Aside0.mk (show Below NB w4 (w4.alloc (.cells #[] 65)) from by rw [← hNB]; exact (Below.refl _ w4).alloc (Nat.le_refl _) _)
    have HNB := Aside0.mk (show ∀ X : World, Below NB w4 X → NB ≤ X.heap.size from fun X h => by rw [← hNB]; exact h.size)
    have HST := Aside0.mk (show ∀ X : World, Below NB w4 X → Below w4.heap.size w4 X from fun X h => by rw [hNB]; exact h)
    clear hw4 t1 t2 hNB
    go_wp2_with fail
    try simp only [Act.put, List.setIfInBounds_toArray, List.set_cons_zero, List.set_cons_succ]
    obtain ⟨w5, hw5⟩ : ∃ X, w4.alloc (.cells #[] 65) = X := ⟨_, rfl⟩
    obtain ⟨g5, hg5⟩ : ∃ X, w4.heap.size = X := ⟨_, rfl⟩
    rw [hw5, hg5] at HO5
    rw [hw5] at HB5
    rw [hw5, hg5]
    clear hw5 hg5
    refine wpAnyM_one (i := 4) (by kernel_rfl) (by simp only [List.getElem?_toArray, List.getElem?_cons_succ, List.getElem?_cons_zero]; rfl) ?_
    refine wpl_rc (w0 := w4) NB (by rfl) (.tmp 32) (.tmp 35) 34 65 zW 2 32 (by rfl) Try.underlying34 infoW rfl (by omega) (by omega) (by omega) _ 0 AT nT cT (wv (hs.drop k)) (by rfl) (by rfl) HO5.out (HTL.out.below (HST.out _ HB5.out)) (HNB.out _ HB5.out) HB5.out ?_
    intro A6 c6 w6 hO hB
    have HO6 := Aside0.mk hO.out
    have HB6 := Aside0.mk hB.out
    clear hO hB
    refine wpl_nil ⟨rfl, fun z => absurd z (by decide), ?_⟩
    try simp only [Act.put, List.setIfInBounds_toArray, List.set_cons_zero, List.set_cons_succ]
    refine wpAnyM_one (i := 8) (by kernel_rfl) (by simp only [List.getElem?_toArray, List.getElem?_cons_succ, List.getElem?_cons_zero]; rfl) ?_
    refine wpl_two (w0 := w4) NB (by rfl) (.tmp 36) (.tmp 39) 34 65 zW 32 (by rfl) Try.underlying34 infoW rfl (by omega) (by omega) A6 nT c6 A1 k c1 (hs.drop k) (hs.take k) (by rfl) (by rfl) HO6.out (HHD.out.below (HST.out _ HB6.out)) (HNB.out _ HB6.out) (by have := HNT.out; have := F1.out; omega) HB6.out ?_
    rw [HNT.out]
    intro A8 c8 w8 hO hB hG
    have H8 := Aside0.mk (And.intro (H4.out.1.step (HST.out _ hB.out)) (And.intro (H4.out.2.below (HST.out _ hB.out)) hO.out.rc))
    clear hO hB hG
    refine wpl_nil ⟨rfl, fun z => absurd z (by decide), ?_⟩
    try simp only [Act.put, List.setIfInBounds_toArray, List.set_cons_zero, List.set_cons_succ]
    refine wpAnyM_take0 (i := 9) (v := ?_) (by simp only [List.getElem?_toArray, List.getElem?_cons_succ, List.getElem?_cons_zero]; rfl) (by kernel_rfl) (by kernel_rfl) (by kernel_rfl) (by rfl) (by exact fun _ _ _ h => h) (Or.inl ⟨by rfl, ?_⟩) ?_
    rotate_left
    · (intro w' _; go_simp; try with_reducible rfl)
    try simp only [Act.put, List.setIfInBounds_toArray, List.set_cons_zero, List.set_cons_succ]
    refine wpAnyM_done (by kernel_rfl) ?_ _
    clear HO5 HB5 HO6 HB6 HNB HST HTL HHD
    go_upto_region 5 with fail
    obtain ⟨w9, hw9⟩ : ∃ X, w8.drew = X := ⟨_, rfl⟩
    have H9 := Aside0.mk (show T1 W A n c hs A' cu c' N0 bx w9 ∧ Rc w9 2 A1 n c1 (wv hs) ∧ Rc w9 2 A8 n c8 (wv (hs.drop k ++ hs.take k)) from by rw [← hw9]; exact ⟨H8.out.1.step (below_drew (Below.refl _ _)), H8.out.2.1.below (below_drew (Below.refl _ _)), H8.out.2.2.below (below_drew (Below.refl _ _))⟩)
    obtain ⟨NC, hNC⟩ : ∃ x, w9.heap.size = x := ⟨_, rfl⟩
    obtain ⟨ad, p, rfl, hp, hc0, hc1⟩ := H9.out.1.rl.two k HK.out
    obtain ⟨lp, hlp, hlp1, _, _, hlp2⟩ := HL.out.2.2.each k p hp
    obtain ⟨id, hid⟩ : ∃ x, p.1 = x := ⟨_, rfl⟩
    rw [hid] at hc0
    have HP := Aside0.mk (show l[k]? = some lp ∧ id = lp.1 ∧ -9223372036854775808 ≤ id ∧ id ≤ 9223372036854775807 from ⟨hlp, by rw [← hid]; exact hlp1, by rw [← hid]; exact hlp2⟩)
    have HS9 := Aside0.mk hc0
    have HNC := Aside0.mk (show ∀ X : World, Below NC w9 X → NC ≤ X.heap.size from fun X h => by rw [← hNC]; exact h.size)
    have HSC := Aside0.mk (show ∀ X : World, Below NC w9 X → Below w9.heap.size w9 X from fun X h => by rw [hNC]; exact h)
    have HSV := Aside0.mk (show ∀ X : World, Below NC w9 X → X.cell? (ad.add (k * 2)) = some (.int .i64 id) from fun X h => cell_below (HSC.out _ h) HS9.out)
    have HBw9 := Aside0.mk (show Below NC w9 w9 from Below.refl _ _)
    have hmk : ∀ W : World, (Instr.makeSlice 22 (.int .i64 256) (.int .i64 256)).run Try.prog W = .ok (.slice (some ⟨W.heap.size, 0, none⟩) 256 256) (W.alloc (.cells (madeCells #[.int .u8 0] 256) 5)) := mk8 256 (by omega)
    clear hp hc0 hc1 hlp hlp1 hlp2 hid hNC
    have hkl : ((k : Int) < (n : Int)) := by have := HK.out; omega
    refine wp_region_M (fun j => (j == 0 || j == 2 || j == 8)) (fun w' => w'.cell? (ad.add (k * 2)) = some (.int .i64 id)) (by kernel_rfl) ?_
    rw [hw9]
    clear hw9
    refine wpAnyM_take0 (i := 1) (v := ?_) (by simp only [List.getElem?_toArray, List.getElem?_cons_succ, List.getElem?_cons_zero]; rfl) (by kernel_rfl) (by kernel_rfl) (by kernel_rfl) (by rfl) (by exact fun _ _ _ h => h) (Or.inl ⟨by rfl, ?_⟩) ?_
    rotate_left
    · (intro w' _; go_simp; try with_reducible rfl)
    try simp only [Act.put, List.setIfInBounds_toArray, List.set_cons_zero, List.set_cons_succ]
    refine wpAnyM_take0 (i := 3) (v := ?_) (by simp only [List.getElem?_toArray, List.getElem?_cons_succ, List.getElem?_cons_zero]; rfl) (by kernel_rfl) (by kernel_rfl) (by kernel_rfl) (by rfl) (by exact fun _ _ _ h => h) (Or.inl ⟨by rfl, ?_⟩) ?_
    rotate_left
    · (intro w' _; go_simp; try with_reducible rfl)
    try simp only [Act.put, List.setIfInBounds_toArray, List.set_cons_zero, List.set_cons_succ]
    refine wpAnyM_take0 (i := 4) (v := ?_) (by simp only [List.getElem?_toArray, List.getElem?_cons_succ, List.getElem?_cons_zero]; rfl) (by kernel_rfl) (by kernel_rfl) (by kernel_rfl) (by rfl) (by exact fun _ _ _ h => h) (Or.inl ⟨by rfl, ?_⟩) ?_
    rotate_left
    · (intro w' _; go_simp; try with_reducible rfl)
    try simp only [Act.put, List.setIfInBounds_toArray, List.set_cons_zero, List.set_cons_succ]
    refine wpAnyM_take0 (i := 5) (v := ?_) (by simp only [List.getElem?_toArray, List.getElem?_cons_succ, List.getElem?_cons_zero]; rfl) (by kernel_rfl) (by kernel_rfl) (by kernel_rfl) (by rfl) (by exact fun _ _ _ h => h) (Or.inl ⟨by rfl, ?_⟩) ?_
    rotate_left
    · (intro w' _; go_simp; try with_reducible rfl)
    try simp only [Act.put, List.setIfInBounds_toArray, List.set_cons_zero, List.set_cons_succ]
    refine wpAnyM_take0 (i := 6) (v := ?_) (by simp only [List.getElem?_toArray, List.getElem?_cons_succ, List.getElem?_cons_zero]; rfl) (by kernel_rfl) (by kernel_rfl) (by kernel_rfl) (by rfl) (by exact fun _ _ _ h => h) (Or.inl ⟨by rfl, ?_⟩) ?_
    rotate_left
    · (intro w' _; go_simp; try with_reducible rfl)
    try simp only [Act.put, List.setIfInBounds_toArray, List.set_cons_zero, List.set_cons_succ]
    refine wpAnyM_take (i := 7) (v := ?_) (by simp only [List.getElem?_toArray, List.getElem?_cons_succ, List.getElem?_cons_zero]; rfl) (by kernel_rfl) (by kernel_rfl) (by kernel_rfl) (by kernel_rfl) (by exact fun _ _ _ h => h) (Or.inl ⟨by rfl, ?_⟩) HS9.out ?_
    rotate_left
    · (intro w' hSw; (try dsimp only at hSw); go_simp; try with_reducible rfl)
    try simp only [Act.put, List.setIfInBounds_toArray, List.set_cons_zero, List.set_cons_succ]
    refine wpAnyM_pair (i := 0) (k := 8) (by kernel_rfl) (by simp only [List.getElem?_toArray, List.getElem?_cons_succ, List.getElem?_cons_zero]; rfl) (by simp only [List.getElem?_toArray, List.getElem?_cons_succ, List.getElem?_cons_zero]; rfl) ?_ ?_
    · skip
      have HOv10 := Aside0.mk (Oc.lit0 w9 NC 65 2 (HNC.out _ HBw9.out))
      have HBv10 := Aside0.mk (below_then HBw9.out (HNC.out _ HBw9.out) ((Below.refl _ w9).alloc (Nat.le_refl _) (.cells #[] 65)))
      go_wp2_with fail
      refine ⟨HSV.out _ HBv10.out, ?_⟩
      obtain ⟨v10, hv10⟩ : ∃ X, w9.alloc (.cells #[] 65) = X := ⟨_, rfl⟩
      obtain ⟨gv10, hgv10⟩ : ∃ X, w9.heap.size = X := ⟨_, rfl⟩
      rw [hv10, hgv10] at HOv10
      rw [hv10] at HBv10
      have HGv10 := Aside0.mk (show gv10 < v10.heap.size from by rw [← hv10, ← hgv10]; simp)
      rw [hv10, hgv10]
      clear hv10 hgv10
      try simp only [Act.put, List.setIfInBounds_toArray, List.set_cons_zero, List.set_cons_succ]
      refine wpAnyM_pair (i := 2) (k := 8) (by kernel_rfl) (by simp only [List.getElem?_toArray, List.getElem?_cons_succ, List.getElem?_cons_zero]; rfl) (by simp only [List.getElem?_toArray, List.getElem?_cons_succ, List.getElem?_cons_zero]; rfl) ?_ ?_
      · skip
        refine wpl_two (w0 := w9) NC (by rfl) (.tmp 41) (.tmp 42) 34 65 zW 32 (by rfl) Try.underlying34 infoW rfl (by omega) (by omega) (some ⟨gv10, 0, none⟩) 0 0 A1 n c1 [] hs (by rfl) (by rfl) HOv10.out (H9.out.2.1.below (HSC.out _ HBv10.out)) (HNC.out _ HBv10.out) (by have := F1.out; omega) HBv10.out ?_
        rw [Nat.zero_add, List.nil_append]
        intro Av11 cv11 v11 hO hB hG
        have HXv11 := Aside0.mk hO.out
        have HBv11 := Aside0.mk hB.out
        clear hO hB hG
        refine wpl_nil ⟨rfl, fun _ => HSV.out _ HBv11.out, ?_⟩
        try simp only [Act.put, List.setIfInBounds_toArray, List.set_cons_zero, List.set_cons_succ]
        refine wpAnyM_one (i := 8) (by kernel_rfl) (by simp only [List.getElem?_toArray, List.getElem?_cons_succ, List.getElem?_cons_zero]; rfl) ?_
        have hbk := (Below.refl _ v11).alloc (Nat.le_refl _) (.cells (madeCells #[.int .u8 0] 256) 5)
        have HXv12 := Aside0.mk (HXv11.out.below hbk)
        have HBv12 := Aside0.mk (below_then HBv11.out (HNC.out _ HBv11.out) hbk)
        clear hbk
        go_wp2_with fail
        refine ⟨HSV.out _ HBv12.out, ?_⟩
        obtain ⟨v12, hv12⟩ : ∃ X, v11.alloc (.cells (madeCells #[.int .u8 0] 256) 5) = X := ⟨_, rfl⟩
        obtain ⟨zv12, hzv12⟩ : ∃ X, v11.heap.size = X := ⟨_, rfl⟩
        rw [hv12] at HXv12
        rw [hv12] at HBv12
        rw [hv12, hzv12]
        clear hv12 hzv12
        try simp only [Act.put, List.setIfInBounds_toArray, List.set_cons_zero, List.set_cons_succ]
        refine wpAnyM_take0 (i := 9) (v := ?_) (by simp only [List.getElem?_toArray, List.getElem?_cons_succ, List.getElem?_cons_zero]; rfl) (by kernel_rfl) (by kernel_rfl) (by kernel_rfl) (by rfl) (by exact fun _ _ _ h => h) (Or.inl ⟨by rfl, ?_⟩) ?_
        rotate_left
        · (intro w' _; go_simp; try with_reducible rfl)
        try simp only [Act.put, List.setIfInBounds_toArray, List.set_cons_zero, List.set_cons_succ]
        refine wpAnyM_one (i := 10) (by kernel_rfl) (by simp only [List.getElem?_toArray, List.getElem?_cons_succ, List.getElem?_cons_zero]; rfl) ?_
        have hbk := (Below.refl _ v12).alloc (Nat.le_refl _) (.cells #[.int .i64 id, .slice (some ⟨zv12, 0, none⟩) 256 256] 65)
        have HXv13 := Aside0.mk (HXv12.out.below hbk)
        have HBv13 := Aside0.mk (below_then HBv12.out (HNC.out _ HBv12.out) hbk)
        have HEv13 := Aside0.mk (ocw_lit (W := v12) NC (HNC.out _ HBv12.out) [(id, some ⟨zv12, 0, none⟩, 256, 256)] 1 rfl (by omega) #[.int .i64 id, .slice (some ⟨zv12, 0, none⟩) 256 256] rfl)
        have HHv13 := Aside0.mk (heap_alloc_new v12 (.cells #[.int .i64 id, .slice (some ⟨zv12, 0, none⟩) 256 256] 65))
        clear hbk
        go_wp2_with fail
        obtain ⟨v13, hv13⟩ : ∃ X, v12.alloc (.cells #[.int .i64 id, .slice (some ⟨zv12, 0, none⟩) 256 256] 65) = X := ⟨_, rfl⟩
        obtain ⟨ev13, hev13⟩ : ∃ X, v12.heap.size = X := ⟨_, rfl⟩
        rw [hv13] at HXv13
        rw [hv13] at HBv13
        rw [hv13, hev13] at HEv13 HHv13
        rw [hv13, hev13]
        clear hv13 hev13
        try simp only [Act.put, List.setIfInBounds_toArray, List.set_cons_zero, List.set_cons_succ]
        refine wpAnyM_one (i := 11) (by kernel_rfl) (by simp only [List.getElem?_toArray, List.getElem?_cons_succ, List.getElem?_cons_zero]; rfl) ?_
        refine wpl_two (w0 := w9) NC (by rfl) (.tmp 43) (.tmp 51) 34 65 zW 32 (by rfl) Try.underlying34 infoW rfl (by omega) (by omega) Av11 n cv11 (some ⟨ev13, 0, none⟩) 1 1 hs [(id, some ⟨zv12, 0, none⟩, 256, 256)] (by rfl) (by rfl) HXv13.out HEv13.out.rc (HNC.out _ HBv13.out) (by have := F1.out; omega) HBv13.out ?_
        intro A11 c11 w11 hO hB hG
        have HO11 := Aside0.mk hO.out.rc
        have HB11 := Aside0.mk hB.out
        clear hO hB hG
        refine wpl_nil ⟨rfl, fun z => absurd z (by decide), ?_⟩
        try simp only [Act.put, List.setIfInBounds_toArray, List.set_cons_zero, List.set_cons_succ]
        refine wpAnyM_take0 (i := 12) (v := ?_) (by simp only [List.getElem?_toArray, List.getElem?_cons_succ, List.getElem?_cons_zero]; rfl) (by kernel_rfl) (by kernel_rfl) (by kernel_rfl) (by rfl) (by exact fun _ _ _ h => h) (Or.inl ⟨by rfl, ?_⟩) ?_
        rotate_left
        · (intro w' _; go_simp; try with_reducible rfl)
        try simp only [Act.put, List.setIfInBounds_toArray, List.set_cons_zero, List.set_cons_succ]
        refine wpAnyM_done (by kernel_rfl) ?_ _
        have HR := Aside0.mk (H9.out.1.step (HSC.out _ HB11.out))
        have HQ := Aside0.mk (H9.out.2.2.below (HSC.out _ HB11.out))
        obtain ⟨r, hr⟩ : ∃ r, prgB l ⟨ge, ph, tg, tx, rt, pg, li, cu⟩ = r := ⟨_, rfl⟩
        have cAl : ∀ kx : Ext w11, Calls Try.prog 11 #[] kx.w fun e w' => e = .returned (.bool true) ∧ Below kx.w.heap.size kx.w w' := fun kx => alive12_any kx.w
        have cP1 : ∀ kx : Ext w11, Calls Try.prog 26 #[.slice A8 n c8, .agg #[.int .i64 ge, .int .i64 ph, .int .i64 tg, .int .i64 tx, .int .i64 rt, .int .i64 pg, .int .i64 li, .slice A' cu.length c']] kx.w fun e w' => e = .returned (.bool r) ∧ Below kx.w.heap.size kx.w w' := fun kx => by
          have h := pright_any A8 n c8 (hs.drop k ++ hs.take k) (l.drop k ++ l.take k) ⟨ge, ph, tg, tx, rt, pg, li, cu⟩ A' c' kx.w (HQ.out.below kx.bel) (by rw [List.length_append, List.length_drop, List.length_take]; have := HL.out; have := HK.out; omega) ((HL.out.2.2.drop k).append (HL.out.2.2.take k)) (HR.out.cu.below kx.bel) (by have := F1.out; show pg ≤ 1000000; omega)
          rw [prgB_turn, hr] at h
          exact h
        have cP2 : ∀ kx : Ext w11, Calls Try.prog 26 #[.slice A11 (n + 1) c11, .agg #[.int .i64 ge, .int .i64 ph, .int .i64 tg, .int .i64 tx, .int .i64 rt, .int .i64 pg, .int .i64 li, .slice A' cu.length c']] kx.w fun e w' => e = .returned (.bool false) ∧ Below kx.w.heap.size kx.w w' := fun kx => by
          have h := pright_any A11 (n + 1) c11 (hs ++ [(id, some ⟨zv12, 0, none⟩, 256, 256)]) (l ++ [(id, List.replicate 256 0)]) ⟨ge, ph, tg, tx, rt, pg, li, cu⟩ A' c' kx.w (HO11.out.below kx.bel) (by rw [List.length_append, HL.out.2.1]; rfl) (HL.out.2.2.append (Hl.one List.length_replicate (by omega) HP.out.2.2)) (HR.out.cu.below kx.bel) (by have := F1.out; show pg ≤ 1000000; omega)
          rw [HP.out.2.1, prgB_twice l k lp _ _ HP.out.1 List.length_replicate] at h
          exact h
        have cRr : ∀ kx : Ext w11, Calls Try.prog 10 #[.slice (some ad) n c, .agg #[.int .i64 ge, .int .i64 ph, .int .i64 tg, .int .i64 tx, .int .i64 rt, .int .i64 pg, .int .i64 li, .slice A' cu.length c']] kx.w fun e w' => e = .returned (.bool r) ∧ Below kx.w.heap.size kx.w w' := fun kx => by
          have h := rpright_any (some ad) n c hs l ⟨ge, ph, tg, tx, rt, pg, li, cu⟩ A' c' kx.w ((HR.out.rl.below kx.bel).rc (by have := F1.out; omega)) HL.out.2.1 HL.out.2.2 hcl.out
          rw [hr] at h
          exact h
        obtain ⟨y0, y1, y2, y3, y4, y5, y6, y7⟩ := hY.out _ HR.out.r0
        go_upto_region 6 with fail
        clear hr hmk hkl hnl
        refine wp_region_ext (by kernel_rfl) (by kernel_rfl) ?_
        have a0 := cell_ext y0
        have a1 := cell_ext y1
        have a2 := cell_ext y2
        have a3 := cell_ext y3
        have a4 := cell_ext y4
        have a5 := cell_ext y5
        have a6 := cell_ext y6
        have a7 := cell_ext y7
        clear y0 y1 y2 y3 y4 y5 y6 y7
        repeat (go_big_quiet_step (first
          | (go_at_call 11; exact Calls.ext_of (cAl _))
          | (go_at_call 26; with_reducible exact Calls.ext_of (cP1 _))
          | (go_at_call 26; with_reducible exact Calls.ext_of (cP2 _))
          | (go_at_call 10; with_reducible exact Calls.ext_of (cRr _))))
        refine wpQuiet_nil ?_
        rintro w' ⟨kx, rfl⟩
        clear a0 a1 a2 a3 a4 a5 a6 a7
        have HZ := Aside0.mk (HR.out.step kx.bel).bel
        go_wp2_with fail
        try go_ret
        exact ⟨rfl, HZ.out⟩
      · skip
        have hbk := (Below.refl _ v10).alloc (Nat.le_refl _) (.cells (madeCells #[.int .u8 0] 256) 5)
        have HOv14 := Aside0.mk (HOv10.out.below hbk)
        have HGv14 := Aside0.mk (Nat.lt_of_lt_of_le HGv10.out hbk.size)
        have HBv14 := Aside0.mk (below_then HBv10.out (HNC.out _ HBv10.out) hbk)
        clear hbk
        go_wp2_with fail
        refine ⟨HSV.out _ HBv14.out, ?_⟩
        obtain ⟨v14, hv14⟩ : ∃ X, v10.alloc (.cells (madeCells #[.int .u8 0] 256) 5) = X := ⟨_, rfl⟩
        obtain ⟨zv14, hzv14⟩ : ∃ X, v10.heap.size = X := ⟨_, rfl⟩
        rw [hv14] at HOv14
        rw [hv14] at HGv14
        rw [hv14] at HBv14
        rw [hv14, hzv14]
        clear hv14 hzv14
        try simp only [Act.put, List.setIfInBounds_toArray, List.set_cons_zero, List.set_cons_succ]
        refine wpAnyM_take0 (i := 9) (v := ?_) (by simp only [List.getElem?_toArray, List.getElem?_cons_succ, List.getElem?_cons_zero]; rfl) (by kernel_rfl) (by kernel_rfl) (by kernel_rfl) (by rfl) (by exact fun _ _ _ h => h) (Or.inl ⟨by rfl, ?_⟩) ?_
        rotate_left
        · (intro w' _; go_simp; try with_reducible rfl)
        try simp only [Act.put, List.setIfInBounds_toArray, List.set_cons_zero, List.set_cons_succ]
        refine wpAnyM_pair (i := 2) (k := 10) (by kernel_rfl) (by simp only [List.getElem?_toArray, List.getElem?_cons_succ, List.getElem?_cons_zero]; rfl) (by simp only [List.getElem?_toArray, List.getElem?_cons_succ, List.getElem?_cons_zero]; rfl) ?_ ?_
        · skip
          refine wpl_two (w0 := w9) NC (by rfl) (.tmp 41) (.tmp 42) 34 65 zW 32 (by rfl) Try.underlying34 infoW rfl (by omega) (by omega) (some ⟨gv10, 0, none⟩) 0 0 A1 n c1 [] hs (by rfl) (by rfl) HOv14.out (H9.out.2.1.below (HSC.out _ HBv14.out)) (HNC.out _ HBv14.out) (by have := F1.out; omega) HBv14.out ?_
          rw [Nat.zero_add, List.nil_append]
          intro Av15 cv15 v15 hO hB hG
          have HXv15 := Aside0.mk hO.out
          have HBv15 := Aside0.mk hB.out
          clear hO hB hG
          refine wpl_nil ⟨rfl, fun _ => HSV.out _ HBv15.out, ?_⟩
          try simp only [Act.put, List.setIfInBounds_toArray, List.set_cons_zero, List.set_cons_succ]
          refine wpAnyM_one (i := 10) (by kernel_rfl) (by simp only [List.getElem?_toArray, List.getElem?_cons_succ, List.getElem?_cons_zero]; rfl) ?_
          have hbk := (Below.refl _ v15).alloc (Nat.le_refl _) (.cells #[.int .i64 id, .slice (some ⟨zv14, 0, none⟩) 256 256] 65)
          have HXv16 := Aside0.mk (HXv15.out.below hbk)
          have HBv16 := Aside0.mk (below_then HBv15.out (HNC.out _ HBv15.out) hbk)
          have HEv16 := Aside0.mk (ocw_lit (W := v15) NC (HNC.out _ HBv15.out) [(id, some ⟨zv14, 0, none⟩, 256, 256)] 1 rfl (by omega) #[.int .i64 id, .slice (some ⟨zv14, 0, none⟩) 256 256] rfl)
          have HHv16 := Aside0.mk (heap_alloc_new v15 (.cells #[.int .i64 id, .slice (some ⟨zv14, 0, none⟩) 256 256] 65))
          clear hbk
          go_wp2_with fail
          obtain ⟨v16, hv16⟩ : ∃ X, v15.alloc (.cells #[.int .i64 id, .slice (some ⟨zv14, 0, none⟩) 256 256] 65) = X := ⟨_, rfl⟩
          obtain ⟨ev16, hev16⟩ : ∃ X, v15.heap.size = X := ⟨_, rfl⟩
          rw [hv16] at HXv16
          rw [hv16] at HBv16
          rw [hv16, hev16] at HEv16 HHv16
          rw [hv16, hev16]
          clear hv16 hev16
          try simp only [Act.put, List.setIfInBounds_toArray, List.set_cons_zero, List.set_cons_succ]
          refine wpAnyM_one (i := 11) (by kernel_rfl) (by simp only [List.getElem?_toArray, List.getElem?_cons_succ, List.getElem?_cons_zero]; rfl) ?_
          refine wpl_two (w0 := w9) NC (by rfl) (.tmp 43) (.tmp 51) 34 65 zW 32 (by rfl) Try.underlying34 infoW rfl (by omega) (by omega) Av15 n cv15 (some ⟨ev16, 0, none⟩) 1 1 hs [(id, some ⟨zv14, 0, none⟩, 256, 256)] (by rfl) (by rfl) HXv16.out HEv16.out.rc (HNC.out _ HBv16.out) (by have := F1.out; omega) HBv16.out ?_
          intro A11 c11 w11 hO hB hG
          have HO11 := Aside0.mk hO.out.rc
          have HB11 := Aside0.mk hB.out
          clear hO hB hG
          refine wpl_nil ⟨rfl, fun z => absurd z (by decide), ?_⟩
          try simp only [Act.put, List.setIfInBounds_toArray, List.set_cons_zero, List.set_cons_succ]
          refine wpAnyM_take0 (i := 12) (v := ?_) (by simp only [List.getElem?_toArray, List.getElem?_cons_succ, List.getElem?_cons_zero]; rfl) (by kernel_rfl) (by kernel_rfl) (by kernel_rfl) (by rfl) (by exact fun _ _ _ h => h) (Or.inl ⟨by rfl, ?_⟩) ?_
          rotate_left
          · (intro w' _; go_simp; try with_reducible rfl)
          try simp only [Act.put, List.setIfInBounds_toArray, List.set_cons_zero, List.set_cons_succ]
          refine wpAnyM_done (by kernel_rfl) ?_ _
          have HR := Aside0.mk (H9.out.1.step (HSC.out _ HB11.out))
          have HQ := Aside0.mk (H9.out.2.2.below (HSC.out _ HB11.out))
          obtain ⟨r, hr⟩ : ∃ r, prgB l ⟨ge, ph, tg, tx, rt, pg, li, cu⟩ = r := ⟨_, rfl⟩
          have cAl : ∀ kx : Ext w11, Calls Try.prog 11 #[] kx.w fun e w' => e = .returned (.bool true) ∧ Below kx.w.heap.size kx.w w' := fun kx => alive12_any kx.w
          have cP1 : ∀ kx : Ext w11, Calls Try.prog 26 #[.slice A8 n c8, .agg #[.int .i64 ge, .int .i64 ph, .int .i64 tg, .int .i64 tx, .int .i64 rt, .int .i64 pg, .int .i64 li, .slice A' cu.length c']] kx.w fun e w' => e = .returned (.bool r) ∧ Below kx.w.heap.size kx.w w' := fun kx => by
            have h := pright_any A8 n c8 (hs.drop k ++ hs.take k) (l.drop k ++ l.take k) ⟨ge, ph, tg, tx, rt, pg, li, cu⟩ A' c' kx.w (HQ.out.below kx.bel) (by rw [List.length_append, List.length_drop, List.length_take]; have := HL.out; have := HK.out; omega) ((HL.out.2.2.drop k).append (HL.out.2.2.take k)) (HR.out.cu.below kx.bel) (by have := F1.out; show pg ≤ 1000000; omega)
            rw [prgB_turn, hr] at h
            exact h
          have cP2 : ∀ kx : Ext w11, Calls Try.prog 26 #[.slice A11 (n + 1) c11, .agg #[.int .i64 ge, .int .i64 ph, .int .i64 tg, .int .i64 tx, .int .i64 rt, .int .i64 pg, .int .i64 li, .slice A' cu.length c']] kx.w fun e w' => e = .returned (.bool false) ∧ Below kx.w.heap.size kx.w w' := fun kx => by
            have h := pright_any A11 (n + 1) c11 (hs ++ [(id, some ⟨zv14, 0, none⟩, 256, 256)]) (l ++ [(id, List.replicate 256 0)]) ⟨ge, ph, tg, tx, rt, pg, li, cu⟩ A' c' kx.w (HO11.out.below kx.bel) (by rw [List.length_append, HL.out.2.1]; rfl) (HL.out.2.2.append (Hl.one List.length_replicate (by omega) HP.out.2.2)) (HR.out.cu.below kx.bel) (by have := F1.out; show pg ≤ 1000000; omega)
            rw [HP.out.2.1, prgB_twice l k lp _ _ HP.out.1 List.length_replicate] at h
            exact h
          have cRr : ∀ kx : Ext w11, Calls Try.prog 10 #[.slice (some ad) n c, .agg #[.int .i64 ge, .int .i64 ph, .int .i64 tg, .int .i64 tx, .int .i64 rt, .int .i64 pg, .int .i64 li, .slice A' cu.length c']] kx.w fun e w' => e = .returned (.bool r) ∧ Below kx.w.heap.size kx.w w' := fun kx => by
            have h := rpright_any (some ad) n c hs l ⟨ge, ph, tg, tx, rt, pg, li, cu⟩ A' c' kx.w ((HR.out.rl.below kx.bel).rc (by have := F1.out; omega)) HL.out.2.1 HL.out.2.2 hcl.out
            rw [hr] at h
            exact h
          obtain ⟨y0, y1, y2, y3, y4, y5, y6, y7⟩ := hY.out _ HR.out.r0
          go_upto_region 6 with fail
          clear hr hmk hkl hnl
          refine wp_region_ext (by kernel_rfl) (by kernel_rfl) ?_
          have a0 := cell_ext y0
          have a1 := cell_ext y1
          have a2 := cell_ext y2
          have a3 := cell_ext y3
          have a4 := cell_ext y4
          have a5 := cell_ext y5
          have a6 := cell_ext y6
          have a7 := cell_ext y7
          clear y0 y1 y2 y3 y4 y5 y6 y7
          repeat (go_big_quiet_step (first
            | (go_at_call 11; exact Calls.ext_of (cAl _))
            | (go_at_call 26; with_reducible exact Calls.ext_of (cP1 _))
            | (go_at_call 26; with_reducible exact Calls.ext_of (cP2 _))
            | (go_at_call 10; with_reducible exact Calls.ext_of (cRr _))))
          refine wpQuiet_nil ?_
          rintro w' ⟨kx, rfl⟩
          clear a0 a1 a2 a3 a4 a5 a6 a7
          have HZ := Aside0.mk (HR.out.step kx.bel).bel
          go_wp2_with fail
          try go_ret
          exact ⟨rfl, HZ.out⟩
        · skip
          have hbk := (Below.refl _ v14).alloc (Nat.le_refl _) (.cells #[.int .i64 id, .slice (some ⟨zv14, 0, none⟩) 256 256] 65)
          have HOv17 := Aside0.mk (HOv14.out.below hbk)
          have HGv17 := Aside0.mk (Nat.lt_of_lt_of_le HGv14.out hbk.size)
          have HBv17 := Aside0.mk (below_then HBv14.out (HNC.out _ HBv14.out) hbk)
          have HEv17 := Aside0.mk (ocw_lit (W := v14) NC (HNC.out _ HBv14.out) [(id, some ⟨zv14, 0, none⟩, 256, 256)] 1 rfl (by omega) #[.int .i64 id, .slice (some ⟨zv14, 0, none⟩) 256 256] rfl)
          have HDv17 := Aside0.mk (show gv10 < v14.heap.size from HGv14.out)
          have HHv17 := Aside0.mk (heap_alloc_new v14 (.cells #[.int .i64 id, .slice (some ⟨zv14, 0, none⟩) 256 256] 65))
          clear hbk
          go_wp2_with fail
          obtain ⟨v17, hv17⟩ : ∃ X, v14.alloc (.cells #[.int .i64 id, .slice (some ⟨zv14, 0, none⟩) 256 256] 65) = X := ⟨_, rfl⟩
          obtain ⟨ev17, hev17⟩ : ∃ X, v14.heap.size = X := ⟨_, rfl⟩
          rw [hv17] at HOv17
          rw [hv17] at HGv17
          rw [hv17] at HBv17
          rw [hv17, hev17] at HEv17 HHv17
          rw [hev17] at HDv17
          rw [hv17, hev17]
          clear hv17 hev17
          try simp only [Act.put, List.setIfInBounds_toArray, List.set_cons_zero, List.set_cons_succ]
          refine wpAnyM_one (i := 2) (by kernel_rfl) (by simp only [List.getElem?_toArray, List.getElem?_cons_succ, List.getElem?_cons_zero]; rfl) ?_
          refine wpl_two (w0 := w9) NC (by rfl) (.tmp 41) (.tmp 42) 34 65 zW 32 (by rfl) Try.underlying34 infoW rfl (by omega) (by omega) (some ⟨gv10, 0, none⟩) 0 0 A1 n c1 [] hs (by rfl) (by rfl) HOv17.out (H9.out.2.1.below (HSC.out _ HBv17.out)) (HNC.out _ HBv17.out) (by have := F1.out; omega) HBv17.out ?_
          rw [Nat.zero_add, List.nil_append]
          intro Av18 cv18 v18 hO hB hG
          have HXv18 := Aside0.mk hO.out
          have HBv18 := Aside0.mk hB.out
          have HEv18 := Aside0.mk (HEv17.out.grw hG.out (fun i j e1 e2 => by injection e1 with e1; injection e1 with e1; injection e2 with e2; injection e2 with e2; have := HDv17.out; omega))
          clear hO hB hG
          refine wpl_nil ⟨rfl, fun _ => HSV.out _ HBv18.out, ?_⟩
          try simp only [Act.put, List.setIfInBounds_toArray, List.set_cons_zero, List.set_cons_succ]
          refine wpAnyM_one (i := 11) (by kernel_rfl) (by simp only [List.getElem?_toArray, List.getElem?_cons_succ, List.getElem?_cons_zero]; rfl) ?_
          refine wpl_two (w0 := w9) NC (by rfl) (.tmp 43) (.tmp 51) 34 65 zW 32 (by rfl) Try.underlying34 infoW rfl (by omega) (by omega) Av18 n cv18 (some ⟨ev17, 0, none⟩) 1 1 hs [(id, some ⟨zv14, 0, none⟩, 256, 256)] (by rfl) (by rfl) HXv18.out HEv18.out.rc (HNC.out _ HBv18.out) (by have := F1.out; omega) HBv18.out ?_
          intro A11 c11 w11 hO hB hG
          have HO11 := Aside0.mk hO.out.rc
          have HB11 := Aside0.mk hB.out
          clear hO hB hG
          refine wpl_nil ⟨rfl, fun z => absurd z (by decide), ?_⟩
          try simp only [Act.put, List.setIfInBounds_toArray, List.set_cons_zero, List.set_cons_succ]
          refine wpAnyM_take0 (i := 12) (v := ?_) (by simp only [List.getElem?_toArray, List.getElem?_cons_succ, List.getElem?_cons_zero]; rfl) (by kernel_rfl) (by kernel_rfl) (by kernel_rfl) (by rfl) (by exact fun _ _ _ h => h) (Or.inl ⟨by rfl, ?_⟩) ?_
          rotate_left
          · (intro w' _; go_simp; try with_reducible rfl)
          try simp only [Act.put, List.setIfInBounds_toArray, List.set_cons_zero, List.set_cons_succ]
          refine wpAnyM_done (by kernel_rfl) ?_ _
          have HR := Aside0.mk (H9.out.1.step (HSC.out _ HB11.out))
          have HQ := Aside0.mk (H9.out.2.2.below (HSC.out _ HB11.out))
          obtain ⟨r, hr⟩ : ∃ r, prgB l ⟨ge, ph, tg, tx, rt, pg, li, cu⟩ = r := ⟨_, rfl⟩
          have cAl : ∀ kx : Ext w11, Calls Try.prog 11 #[] kx.w fun e w' => e = .returned (.bool true) ∧ Below kx.w.heap.size kx.w w' := fun kx => alive12_any kx.w
          have cP1 : ∀ kx : Ext w11, Calls Try.prog 26 #[.slice A8 n c8, .agg #[.int .i64 ge, .int .i64 ph, .int .i64 tg, .int .i64 tx, .int .i64 rt, .int .i64 pg, .int .i64 li, .slice A' cu.length c']] kx.w fun e w' => e = .returned (.bool r) ∧ Below kx.w.heap.size kx.w w' := fun kx => by
            have h := pright_any A8 n c8 (hs.drop k ++ hs.take k) (l.drop k ++ l.take k) ⟨ge, ph, tg, tx, rt, pg, li, cu⟩ A' c' kx.w (HQ.out.below kx.bel) (by rw [List.length_append, List.length_drop, List.length_take]; have := HL.out; have := HK.out; omega) ((HL.out.2.2.drop k).append (HL.out.2.2.take k)) (HR.out.cu.below kx.bel) (by have := F1.out; show pg ≤ 1000000; omega)
            rw [prgB_turn, hr] at h
            exact h
          have cP2 : ∀ kx : Ext w11, Calls Try.prog 26 #[.slice A11 (n + 1) c11, .agg #[.int .i64 ge, .int .i64 ph, .int .i64 tg, .int .i64 tx, .int .i64 rt, .int .i64 pg, .int .i64 li, .slice A' cu.length c']] kx.w fun e w' => e = .returned (.bool false) ∧ Below kx.w.heap.size kx.w w' := fun kx => by
            have h := pright_any A11 (n + 1) c11 (hs ++ [(id, some ⟨zv14, 0, none⟩, 256, 256)]) (l ++ [(id, List.replicate 256 0)]) ⟨ge, ph, tg, tx, rt, pg, li, cu⟩ A' c' kx.w (HO11.out.below kx.bel) (by rw [List.length_append, HL.out.2.1]; rfl) (HL.out.2.2.append (Hl.one List.length_replicate (by omega) HP.out.2.2)) (HR.out.cu.below kx.bel) (by have := F1.out; show pg ≤ 1000000; omega)
            rw [HP.out.2.1, prgB_twice l k lp _ _ HP.out.1 List.length_replicate] at h
            exact h
          have cRr : ∀ kx : Ext w11, Calls Try.prog 10 #[.slice (some ad) n c, .agg #[.int .i64 ge, .int .i64 ph, .int .i64 tg, .int .i64 tx, .int .i64 rt, .int .i64 pg, .int .i64 li, .slice A' cu.length c']] kx.w fun e w' => e = .returned (.bool r) ∧ Below kx.w.heap.size kx.w w' := fun kx => by
            have h := rpright_any (some ad) n c hs l ⟨ge, ph, tg, tx, rt, pg, li, cu⟩ A' c' kx.w ((HR.out.rl.below kx.bel).rc (by have := F1.out; omega)) HL.out.2.1 HL.out.2.2 hcl.out
            rw [hr] at h
            exact h
          obtain ⟨y0, y1, y2, y3, y4, y5, y6, y7⟩ := hY.out _ HR.out.r0
          go_upto_region 6 with fail
          clear hr hmk hkl hnl
          refine wp_region_ext (by kernel_rfl) (by kernel_rfl) ?_
          have a0 := cell_ext y0
          have a1 := cell_ext y1
          have a2 := cell_ext y2
          have a3 := cell_ext y3
          have a4 := cell_ext y4
          have a5 := cell_ext y5
          have a6 := cell_ext y6
          have a7 := cell_ext y7
          clear y0 y1 y2 y3 y4 y5 y6 y7
          repeat (go_big_quiet_step (first
            | (go_at_call 11; exact Calls.ext_of (cAl _))
            | (go_at_call 26; with_reducible exact Calls.ext_of (cP1 _))
            | (go_at_call 26; with_reducible exact Calls.ext_of (cP2 _))
            | (go_at_call 10; with_reducible exact Calls.ext_of (cRr _))))
          refine wpQuiet_nil ?_
          rintro w' ⟨kx, rfl⟩
          clear a0 a1 a2 a3 a4 a5 a6 a7
          have HZ := Aside0.mk (HR.out.step kx.bel).bel
          go_wp2_with fail
          try go_ret
          exact ⟨rfl, HZ.out⟩
    · skip
      have hbk := (Below.refl _ w9).alloc (Nat.le_refl _) (.cells (madeCells #[.int .u8 0] 256) 5)
      have HBv19 := Aside0.mk (below_then HBw9.out (HNC.out _ HBw9.out) hbk)
      clear hbk
      go_wp2_with fail
      refine ⟨HSV.out _ HBv19.out, ?_⟩
      obtain ⟨v19, hv19⟩ : ∃ X, w9.alloc (.cells (madeCells #[.int .u8 0] 256) 5) = X := ⟨_, rfl⟩
      obtain ⟨zv19, hzv19⟩ : ∃ X, w9.heap.size = X := ⟨_, rfl⟩
      rw [hv19] at HBv19
      rw [hv19, hzv19]
      clear hv19 hzv19
      try simp only [Act.put, List.setIfInBounds_toArray, List.set_cons_zero, List.set_cons_succ]
      refine wpAnyM_take0 (i := 9) (v := ?_) (by simp only [List.getElem?_toArray, List.getElem?_cons_succ, List.getElem?_cons_zero]; rfl) (by kernel_rfl) (by kernel_rfl) (by kernel_rfl) (by rfl) (by exact fun _ _ _ h => h) (Or.inl ⟨by rfl, ?_⟩) ?_
      rotate_left
      · (intro w' _; go_simp; try with_reducible rfl)
      try simp only [Act.put, List.setIfInBounds_toArray, List.set_cons_zero, List.set_cons_succ]
      refine wpAnyM_pair (i := 0) (k := 10) (by kernel_rfl) (by simp only [List.getElem?_toArray, List.getElem?_cons_succ, List.getElem?_cons_zero]; rfl) (by simp only [List.getElem?_toArray, List.getElem?_cons_succ, List.getElem?_cons_zero]; rfl) ?_ ?_
      · skip
        have HOv20 := Aside0.mk (Oc.lit0 v19 NC 65 2 (HNC.out _ HBv19.out))
        have HBv20 := Aside0.mk (below_then HBv19.out (HNC.out _ HBv19.out) ((Below.refl _ v19).alloc (Nat.le_refl _) (.cells #[] 65)))
        go_wp2_with fail
        refine ⟨HSV.out _ HBv20.out, ?_⟩
        obtain ⟨v20, hv20⟩ : ∃ X, v19.alloc (.cells #[] 65) = X := ⟨_, rfl⟩
        obtain ⟨gv20, hgv20⟩ : ∃ X, v19.heap.size = X := ⟨_, rfl⟩
        rw [hv20, hgv20] at HOv20
        rw [hv20] at HBv20
        have HGv20 := Aside0.mk (show gv20 < v20.heap.size from by rw [← hv20, ← hgv20]; simp)
        rw [hv20, hgv20]
        clear hv20 hgv20
        try simp only [Act.put, List.setIfInBounds_toArray, List.set_cons_zero, List.set_cons_succ]
        refine wpAnyM_pair (i := 2) (k := 10) (by kernel_rfl) (by simp only [List.getElem?_toArray, List.getElem?_cons_succ, List.getElem?_cons_zero]; rfl) (by simp only [List.getElem?_toArray, List.getElem?_cons_succ, List.getElem?_cons_zero]; rfl) ?_ ?_
        · skip
          refine wpl_two (w0 := w9) NC (by rfl) (.tmp 41) (.tmp 42) 34 65 zW 32 (by rfl) Try.underlying34 infoW rfl (by omega) (by omega) (some ⟨gv20, 0, none⟩) 0 0 A1 n c1 [] hs (by rfl) (by rfl) HOv20.out (H9.out.2.1.below (HSC.out _ HBv20.out)) (HNC.out _ HBv20.out) (by have := F1.out; omega) HBv20.out ?_
          rw [Nat.zero_add, List.nil_append]
          intro Av21 cv21 v21 hO hB hG
          have HXv21 := Aside0.mk hO.out
          have HBv21 := Aside0.mk hB.out
          clear hO hB hG
          refine wpl_nil ⟨rfl, fun _ => HSV.out _ HBv21.out, ?_⟩
          try simp only [Act.put, List.setIfInBounds_toArray, List.set_cons_zero, List.set_cons_succ]
          refine wpAnyM_one (i := 10) (by kernel_rfl) (by simp only [List.getElem?_toArray, List.getElem?_cons_succ, List.getElem?_cons_zero]; rfl) ?_
          have hbk := (Below.refl _ v21).alloc (Nat.le_refl _) (.cells #[.int .i64 id, .slice (some ⟨zv19, 0, none⟩) 256 256] 65)
          have HXv22 := Aside0.mk (HXv21.out.below hbk)
          have HBv22 := Aside0.mk (below_then HBv21.out (HNC.out _ HBv21.out) hbk)
          have HEv22 := Aside0.mk (ocw_lit (W := v21) NC (HNC.out _ HBv21.out) [(id, some ⟨zv19, 0, none⟩, 256, 256)] 1 rfl (by omega) #[.int .i64 id, .slice (some ⟨zv19, 0, none⟩) 256 256] rfl)
          have HHv22 := Aside0.mk (heap_alloc_new v21 (.cells #[.int .i64 id, .slice (some ⟨zv19, 0, none⟩) 256 256] 65))
          clear hbk
          go_wp2_with fail
          obtain ⟨v22, hv22⟩ : ∃ X, v21.alloc (.cells #[.int .i64 id, .slice (some ⟨zv19, 0, none⟩) 256 256] 65) = X := ⟨_, rfl⟩
          obtain ⟨ev22, hev22⟩ : ∃ X, v21.heap.size = X := ⟨_, rfl⟩
          rw [hv22] at HXv22
          rw [hv22] at HBv22
          rw [hv22, hev22] at HEv22 HHv22
          rw [hv22, hev22]
          clear hv22 hev22
          try simp only [Act.put, List.setIfInBounds_toArray, List.set_cons_zero, List.set_cons_succ]
          refine wpAnyM_one (i := 11) (by kernel_rfl) (by simp only [List.getElem?_toArray, List.getElem?_cons_succ, List.getElem?_cons_zero]; rfl) ?_
          refine wpl_two (w0 := w9) NC (by rfl) (.tmp 43) (.tmp 51) 34 65 zW 32 (by rfl) Try.underlying34 infoW rfl (by omega) (by omega) Av21 n cv21 (some ⟨ev22, 0, none⟩) 1 1 hs [(id, some ⟨zv19, 0, none⟩, 256, 256)] (by rfl) (by rfl) HXv22.out HEv22.out.rc (HNC.out _ HBv22.out) (by have := F1.out; omega) HBv22.out ?_
          intro A11 c11 w11 hO hB hG
          have HO11 := Aside0.mk hO.out.rc
          have HB11 := Aside0.mk hB.out
          clear hO hB hG
          refine wpl_nil ⟨rfl, fun z => absurd z (by decide), ?_⟩
          try simp only [Act.put, List.setIfInBounds_toArray, List.set_cons_zero, List.set_cons_succ]
          refine wpAnyM_take0 (i := 12) (v := ?_) (by simp only [List.getElem?_toArray, List.getElem?_cons_succ, List.getElem?_cons_zero]; rfl) (by kernel_rfl) (by kernel_rfl) (by kernel_rfl) (by rfl) (by exact fun _ _ _ h => h) (Or.inl ⟨by rfl, ?_⟩) ?_
          rotate_left
          · (intro w' _; go_simp; try with_reducible rfl)
          try simp only [Act.put, List.setIfInBounds_toArray, List.set_cons_zero, List.set_cons_succ]
          refine wpAnyM_done (by kernel_rfl) ?_ _
          have HR := Aside0.mk (H9.out.1.step (HSC.out _ HB11.out))
          have HQ := Aside0.mk (H9.out.2.2.below (HSC.out _ HB11.out))
          obtain ⟨r, hr⟩ : ∃ r, prgB l ⟨ge, ph, tg, tx, rt, pg, li, cu⟩ = r := ⟨_, rfl⟩
          have cAl : ∀ kx : Ext w11, Calls Try.prog 11 #[] kx.w fun e w' => e = .returned (.bool true) ∧ Below kx.w.heap.size kx.w w' := fun kx => alive12_any kx.w
          have cP1 : ∀ kx : Ext w11, Calls Try.prog 26 #[.slice A8 n c8, .agg #[.int .i64 ge, .int .i64 ph, .int .i64 tg, .int .i64 tx, .int .i64 rt, .int .i64 pg, .int .i64 li, .slice A' cu.length c']] kx.w fun e w' => e = .returned (.bool r) ∧ Below kx.w.heap.size kx.w w' := fun kx => by
            have h := pright_any A8 n c8 (hs.drop k ++ hs.take k) (l.drop k ++ l.take k) ⟨ge, ph, tg, tx, rt, pg, li, cu⟩ A' c' kx.w (HQ.out.below kx.bel) (by rw [List.length_append, List.length_drop, List.length_take]; have := HL.out; have := HK.out; omega) ((HL.out.2.2.drop k).append (HL.out.2.2.take k)) (HR.out.cu.below kx.bel) (by have := F1.out; show pg ≤ 1000000; omega)
            rw [prgB_turn, hr] at h
            exact h
          have cP2 : ∀ kx : Ext w11, Calls Try.prog 26 #[.slice A11 (n + 1) c11, .agg #[.int .i64 ge, .int .i64 ph, .int .i64 tg, .int .i64 tx, .int .i64 rt, .int .i64 pg, .int .i64 li, .slice A' cu.length c']] kx.w fun e w' => e = .returned (.bool false) ∧ Below kx.w.heap.size kx.w w' := fun kx => by
            have h := pright_any A11 (n + 1) c11 (hs ++ [(id, some ⟨zv19, 0, none⟩, 256, 256)]) (l ++ [(id, List.replicate 256 0)]) ⟨ge, ph, tg, tx, rt, pg, li, cu⟩ A' c' kx.w (HO11.out.below kx.bel) (by rw [List.length_append, HL.out.2.1]; rfl) (HL.out.2.2.append (Hl.one List.length_replicate (by omega) HP.out.2.2)) (HR.out.cu.below kx.bel) (by have := F1.out; show pg ≤ 1000000; omega)
            rw [HP.out.2.1, prgB_twice l k lp _ _ HP.out.1 List.length_replicate] at h
            exact h
          have cRr : ∀ kx : Ext w11, Calls Try.prog 10 #[.slice (some ad) n c, .agg #[.int .i64 ge, .int .i64 ph, .int .i64 tg, .int .i64 tx, .int .i64 rt, .int .i64 pg, .int .i64 li, .slice A' cu.length c']] kx.w fun e w' => e = .returned (.bool r) ∧ Below kx.w.heap.size kx.w w' := fun kx => by
            have h := rpright_any (some ad) n c hs l ⟨ge, ph, tg, tx, rt, pg, li, cu⟩ A' c' kx.w ((HR.out.rl.below kx.bel).rc (by have := F1.out; omega)) HL.out.2.1 HL.out.2.2 hcl.out
            rw [hr] at h
            exact h
          obtain ⟨y0, y1, y2, y3, y4, y5, y6, y7⟩ := hY.out _ HR.out.r0
          go_upto_region 6 with fail
          clear hr hmk hkl hnl
          refine wp_region_ext (by kernel_rfl) (by kernel_rfl) ?_
          have a0 := cell_ext y0
          have a1 := cell_ext y1
          have a2 := cell_ext y2
          have a3 := cell_ext y3
          have a4 := cell_ext y4
          have a5 := cell_ext y5
          have a6 := cell_ext y6
          have a7 := cell_ext y7
          clear y0 y1 y2 y3 y4 y5 y6 y7
          repeat (go_big_quiet_step (first
            | (go_at_call 11; exact Calls.ext_of (cAl _))
            | (go_at_call 26; with_reducible exact Calls.ext_of (cP1 _))
            | (go_at_call 26; with_reducible exact Calls.ext_of (cP2 _))
            | (go_at_call 10; with_reducible exact Calls.ext_of (cRr _))))
          refine wpQuiet_nil ?_
          rintro w' ⟨kx, rfl⟩
          clear a0 a1 a2 a3 a4 a5 a6 a7
          have HZ := Aside0.mk (HR.out.step kx.bel).bel
          go_wp2_with fail
          try go_ret
          exact ⟨rfl, HZ.out⟩
        · skip
          have hbk := (Below.refl _ v20).alloc (Nat.le_refl _) (.cells #[.int .i64 id, .slice (some ⟨zv19, 0, none⟩) 256 256] 65)
          have HOv23 := Aside0.mk (HOv20.out.below hbk)
          have HGv23 := Aside0.mk (Nat.lt_of_lt_of_le HGv20.out hbk.size)
          have HBv23 := Aside0.mk (below_then HBv20.out (HNC.out _ HBv20.out) hbk)
          have HEv23 := Aside0.mk (ocw_lit (W := v20) NC (HNC.out _ HBv20.out) [(id, some ⟨zv19, 0, none⟩, 256, 256)] 1 rfl (by omega) #[.int .i64 id, .slice (some ⟨zv19, 0, none⟩) 256 256] rfl)
          have HDv23 := Aside0.mk (show gv20 < v20.heap.size from HGv20.out)
          have HHv23 := Aside0.mk (heap_alloc_new v20 (.cells #[.int .i64 id, .slice (some ⟨zv19, 0, none⟩) 256 256] 65))
          clear hbk
          go_wp2_with fail
          obtain ⟨v23, hv23⟩ : ∃ X, v20.alloc (.cells #[.int .i64 id, .slice (some ⟨zv19, 0, none⟩) 256 256] 65) = X := ⟨_, rfl⟩
          obtain ⟨ev23, hev23⟩ : ∃ X, v20.heap.size = X := ⟨_, rfl⟩
          rw [hv23] at HOv23
          rw [hv23] at HGv23
          rw [hv23] at HBv23
          rw [hv23, hev23] at HEv23 HHv23
          rw [hev23] at HDv23
          rw [hv23, hev23]
          clear hv23 hev23
          try simp only [Act.put, List.setIfInBounds_toArray, List.set_cons_zero, List.set_cons_succ]
          refine wpAnyM_one (i := 2) (by kernel_rfl) (by simp only [List.getElem?_toArray, List.getElem?_cons_succ, List.getElem?_cons_zero]; rfl) ?_
          refine wpl_two (w0 := w9) NC (by rfl) (.tmp 41) (.tmp 42) 34 65 zW 32 (by rfl) Try.underlying34 infoW rfl (by omega) (by omega) (some ⟨gv20, 0, none⟩) 0 0 A1 n c1 [] hs (by rfl) (by rfl) HOv23.out (H9.out.2.1.below (HSC.out _ HBv23.out)) (HNC.out _ HBv23.out) (by have := F1.out; omega) HBv23.out ?_
          rw [Nat.zero_add, List.nil_append]
          intro Av24 cv24 v24 hO hB hG
          have HXv24 := Aside0.mk hO.out
          have HBv24 := Aside0.mk hB.out
          have HEv24 := Aside0.mk (HEv23.out.grw hG.out (fun i j e1 e2 => by injection e1 with e1; injection e1 with e1; injection e2 with e2; injection e2 with e2; have := HDv23.out; omega))
          clear hO hB hG
          refine wpl_nil ⟨rfl, fun _ => HSV.out _ HBv24.out, ?_⟩
          try simp only [Act.put, List.setIfInBounds_toArray, List.set_cons_zero, List.set_cons_succ]
          refine wpAnyM_one (i := 11) (by kernel_rfl) (by simp only [List.getElem?_toArray, List.getElem?_cons_succ, List.getElem?_cons_zero]; rfl) ?_
          refine wpl_two (w0 := w9) NC (by rfl) (.tmp 43) (.tmp 51) 34 65 zW 32 (by rfl) Try.underlying34 infoW rfl (by omega) (by omega) Av24 n cv24 (some ⟨ev23, 0, none⟩) 1 1 hs [(id, some ⟨zv19, 0, none⟩, 256, 256)] (by rfl) (by rfl) HXv24.out HEv24.out.rc (HNC.out _ HBv24.out) (by have := F1.out; omega) HBv24.out ?_
          intro A11 c11 w11 hO hB hG
          have HO11 := Aside0.mk hO.out.rc
          have HB11 := Aside0.mk hB.out
          clear hO hB hG
          refine wpl_nil ⟨rfl, fun z => absurd z (by decide), ?_⟩
          try simp only [Act.put, List.setIfInBounds_toArray, List.set_cons_zero, List.set_cons_succ]
          refine wpAnyM_take0 (i := 12) (v := ?_) (by simp only [List.getElem?_toArray, List.getElem?_cons_succ, List.getElem?_cons_zero]; rfl) (by kernel_rfl) (by kernel_rfl) (by kernel_rfl) (by rfl) (by exact fun _ _ _ h => h) (Or.inl ⟨by rfl, ?_⟩) ?_
          rotate_left
          · (intro w' _; go_simp; try with_reducible rfl)
          try simp only [Act.put, List.setIfInBounds_toArray, List.set_cons_zero, List.set_cons_succ]
          refine wpAnyM_done (by kernel_rfl) ?_ _
          have HR := Aside0.mk (H9.out.1.step (HSC.out _ HB11.out))
          have HQ := Aside0.mk (H9.out.2.2.below (HSC.out _ HB11.out))
          obtain ⟨r, hr⟩ : ∃ r, prgB l ⟨ge, ph, tg, tx, rt, pg, li, cu⟩ = r := ⟨_, rfl⟩
          have cAl : ∀ kx : Ext w11, Calls Try.prog 11 #[] kx.w fun e w' => e = .returned (.bool true) ∧ Below kx.w.heap.size kx.w w' := fun kx => alive12_any kx.w
          have cP1 : ∀ kx : Ext w11, Calls Try.prog 26 #[.slice A8 n c8, .agg #[.int .i64 ge, .int .i64 ph, .int .i64 tg, .int .i64 tx, .int .i64 rt, .int .i64 pg, .int .i64 li, .slice A' cu.length c']] kx.w fun e w' => e = .returned (.bool r) ∧ Below kx.w.heap.size kx.w w' := fun kx => by
            have h := pright_any A8 n c8 (hs.drop k ++ hs.take k) (l.drop k ++ l.take k) ⟨ge, ph, tg, tx, rt, pg, li, cu⟩ A' c' kx.w (HQ.out.below kx.bel) (by rw [List.length_append, List.length_drop, List.length_take]; have := HL.out; have := HK.out; omega) ((HL.out.2.2.drop k).append (HL.out.2.2.take k)) (HR.out.cu.below kx.bel) (by have := F1.out; show pg ≤ 1000000; omega)
            rw [prgB_turn, hr] at h
            exact h
          have cP2 : ∀ kx : Ext w11, Calls Try.prog 26 #[.slice A11 (n + 1) c11, .agg #[.int .i64 ge, .int .i64 ph, .int .i64 tg, .int .i64 tx, .int .i64 rt, .int .i64 pg, .int .i64 li, .slice A' cu.length c']] kx.w fun e w' => e = .returned (.bool false) ∧ Below kx.w.heap.size kx.w w' := fun kx => by
            have h := pright_any A11 (n + 1) c11 (hs ++ [(id, some ⟨zv19, 0, none⟩, 256, 256)]) (l ++ [(id, List.replicate 256 0)]) ⟨ge, ph, tg, tx, rt, pg, li, cu⟩ A' c' kx.w (HO11.out.below kx.bel) (by rw [List.length_append, HL.out.2.1]; rfl) (HL.out.2.2.append (Hl.one List.length_replicate (by omega) HP.out.2.2)) (HR.out.cu.below kx.bel) (by have := F1.out; show pg ≤ 1000000; omega)
            rw [HP.out.2.1, prgB_twice l k lp _ _ HP.out.1 List.length_replicate] at h
            exact h
          have cRr : ∀ kx : Ext w11, Calls Try.prog 10 #[.slice (some ad) n c, .agg #[.int .i64 ge, .int .i64 ph, .int .i64 tg, .int .i64 tx, .int .i64 rt, .int .i64 pg, .int .i64 li, .slice A' cu.length c']] kx.w fun e w' => e = .returned (.bool r) ∧ Below kx.w.heap.size kx.w w' := fun kx => by
            have h := rpright_any (some ad) n c hs l ⟨ge, ph, tg, tx, rt, pg, li, cu⟩ A' c' kx.w ((HR.out.rl.below kx.bel).rc (by have := F1.out; omega)) HL.out.2.1 HL.out.2.2 hcl.out
            rw [hr] at h
            exact h
          obtain ⟨y0, y1, y2, y3, y4, y5, y6, y7⟩ := hY.out _ HR.out.r0
          go_upto_region 6 with fail
          clear hr hmk hkl hnl
          refine wp_region_ext (by kernel_rfl) (by kernel_rfl) ?_
          have a0 := cell_ext y0
          have a1 := cell_ext y1
          have a2 := cell_ext y2
          have a3 := cell_ext y3
          have a4 := cell_ext y4
          have a5 := cell_ext y5
          have a6 := cell_ext y6
          have a7 := cell_ext y7
          clear y0 y1 y2 y3 y4 y5 y6 y7
          repeat (go_big_quiet_step (first
            | (go_at_call 11; exact Calls.ext_of (cAl _))
            | (go_at_call 26; with_reducible exact Calls.ext_of (cP1 _))
            | (go_at_call 26; with_reducible exact Calls.ext_of (cP2 _))
            | (go_at_call 10; with_reducible exact Calls.ext_of (cRr _))))
          refine wpQuiet_nil ?_
          rintro w' ⟨kx, rfl⟩
          clear a0 a1 a2 a3 a4 a5 a6 a7
          have HZ := Aside0.mk (HR.out.step kx.bel).bel
          go_wp2_with fail
          try go_ret
          exact ⟨rfl, HZ.out⟩
      · skip
        have hbk := (Below.refl _ v19).alloc (Nat.le_refl _) (.cells #[.int .i64 id, .slice (some ⟨zv19, 0, none⟩) 256 256] 65)
        have HBv25 := Aside0.mk (below_then HBv19.out (HNC.out _ HBv19.out) hbk)
        have HEv25 := Aside0.mk (ocw_lit (W := v19) NC (HNC.out _ HBv19.out) [(id, some ⟨zv19, 0, none⟩, 256, 256)] 1 rfl (by omega) #[.int .i64 id, .slice (some ⟨zv19, 0, none⟩) 256 256] rfl)
        have HHv25 := Aside0.mk (heap_alloc_new v19 (.cells #[.int .i64 id, .slice (some ⟨zv19, 0, none⟩) 256 256] 65))
        clear hbk
        go_wp2_with fail
        obtain ⟨v25, hv25⟩ : ∃ X, v19.alloc (.cells #[.int .i64 id, .slice (some ⟨zv19, 0, none⟩) 256 256] 65) = X := ⟨_, rfl⟩
        obtain ⟨ev25, hev25⟩ : ∃ X, v19.heap.size = X := ⟨_, rfl⟩
        rw [hv25] at HBv25
        rw [hv25, hev25] at HEv25 HHv25
        rw [hv25, hev25]
        clear hv25 hev25
        try simp only [Act.put, List.setIfInBounds_toArray, List.set_cons_zero, List.set_cons_succ]
        refine wpAnyM_one (i := 0) (by kernel_rfl) (by simp only [List.getElem?_toArray, List.getElem?_cons_succ, List.getElem?_cons_zero]; rfl) ?_
        have HOv26 := Aside0.mk (Oc.lit0 v25 NC 65 2 (HNC.out _ HBv25.out))
        have HBv26 := Aside0.mk (below_then HBv25.out (HNC.out _ HBv25.out) ((Below.refl _ v25).alloc (Nat.le_refl _) (.cells #[] 65)))
        have HEv26 := Aside0.mk (HEv25.out.below ((Below.refl _ v25).alloc (Nat.le_refl _) (.cells #[] 65)))
        have HDv26 := Aside0.mk (show ev25 < v25.heap.size from (Array.getElem?_eq_some_iff.1 HHv25.out).1)
        go_wp2_with fail
        refine ⟨HSV.out _ HBv26.out, ?_⟩
        obtain ⟨v26, hv26⟩ : ∃ X, v25.alloc (.cells #[] 65) = X := ⟨_, rfl⟩
        obtain ⟨gv26, hgv26⟩ : ∃ X, v25.heap.size = X := ⟨_, rfl⟩
        rw [hv26, hgv26] at HOv26
        rw [hv26] at HBv26
        rw [hv26] at HEv26
        rw [hgv26] at HDv26
        have HGv26 := Aside0.mk (show gv26 < v26.heap.size from by rw [← hv26, ← hgv26]; simp)
        rw [hv26, hgv26]
        clear hv26 hgv26
        try simp only [Act.put, List.setIfInBounds_toArray, List.set_cons_zero, List.set_cons_succ]
        refine wpAnyM_one (i := 2) (by kernel_rfl) (by simp only [List.getElem?_toArray, List.getElem?_cons_succ, List.getElem?_cons_zero]; rfl) ?_
        refine wpl_two (w0 := w9) NC (by rfl) (.tmp 41) (.tmp 42) 34 65 zW 32 (by rfl) Try.underlying34 infoW rfl (by omega) (by omega) (some ⟨gv26, 0, none⟩) 0 0 A1 n c1 [] hs (by rfl) (by rfl) HOv26.out (H9.out.2.1.below (HSC.out _ HBv26.out)) (HNC.out _ HBv26.out) (by have := F1.out; omega) HBv26.out ?_
        rw [Nat.zero_add, List.nil_append]
        intro Av27 cv27 v27 hO hB hG
        have HXv27 := Aside0.mk hO.out
        have HBv27 := Aside0.mk hB.out
        have HEv27 := Aside0.mk (HEv26.out.grw hG.out (fun i j e1 e2 => by injection e1 with e1; injection e1 with e1; injection e2 with e2; injection e2 with e2; have := HDv26.out; omega))
        clear hO hB hG
        refine wpl_nil ⟨rfl, fun _ => HSV.out _ HBv27.out, ?_⟩
        try simp only [Act.put, List.setIfInBounds_toArray, List.set_cons_zero, List.set_cons_succ]
        refine wpAnyM_one (i := 11) (by kernel_rfl) (by simp only [List.getElem?_toArray, List.getElem?_cons_succ, List.getElem?_cons_zero]; rfl) ?_
        refine wpl_two (w0 := w9) NC (by rfl) (.tmp 43) (.tmp 51) 34 65 zW 32 (by rfl) Try.underlying34 infoW rfl (by omega) (by omega) Av27 n cv27 (some ⟨ev25, 0, none⟩) 1 1 hs [(id, some ⟨zv19, 0, none⟩, 256, 256)] (by rfl) (by rfl) HXv27.out HEv27.out.rc (HNC.out _ HBv27.out) (by have := F1.out; omega) HBv27.out ?_
        intro A11 c11 w11 hO hB hG
        have HO11 := Aside0.mk hO.out.rc
        have HB11 := Aside0.mk hB.out
        clear hO hB hG
        refine wpl_nil ⟨rfl, fun z => absurd z (by decide), ?_⟩
        try simp only [Act.put, List.setIfInBounds_toArray, List.set_cons_zero, List.set_cons_succ]
        refine wpAnyM_take0 (i := 12) (v := ?_) (by simp only [List.getElem?_toArray, List.getElem?_cons_succ, List.getElem?_cons_zero]; rfl) (by kernel_rfl) (by kernel_rfl) (by kernel_rfl) (by rfl) (by exact fun _ _ _ h => h) (Or.inl ⟨by rfl, ?_⟩) ?_
        rotate_left
        · (intro w' _; go_simp; try with_reducible rfl)
        try simp only [Act.put, List.setIfInBounds_toArray, List.set_cons_zero, List.set_cons_succ]
        refine wpAnyM_done (by kernel_rfl) ?_ _
        have HR := Aside0.mk (H9.out.1.step (HSC.out _ HB11.out))
        have HQ := Aside0.mk (H9.out.2.2.below (HSC.out _ HB11.out))
        obtain ⟨r, hr⟩ : ∃ r, prgB l ⟨ge, ph, tg, tx, rt, pg, li, cu⟩ = r := ⟨_, rfl⟩
        have cAl : ∀ kx : Ext w11, Calls Try.prog 11 #[] kx.w fun e w' => e = .returned (.bool true) ∧ Below kx.w.heap.size kx.w w' := fun kx => alive12_any kx.w
        have cP1 : ∀ kx : Ext w11, Calls Try.prog 26 #[.slice A8 n c8, .agg #[.int .i64 ge, .int .i64 ph, .int .i64 tg, .int .i64 tx, .int .i64 rt, .int .i64 pg, .int .i64 li, .slice A' cu.length c']] kx.w fun e w' => e = .returned (.bool r) ∧ Below kx.w.heap.size kx.w w' := fun kx => by
          have h := pright_any A8 n c8 (hs.drop k ++ hs.take k) (l.drop k ++ l.take k) ⟨ge, ph, tg, tx, rt, pg, li, cu⟩ A' c' kx.w (HQ.out.below kx.bel) (by rw [List.length_append, List.length_drop, List.length_take]; have := HL.out; have := HK.out; omega) ((HL.out.2.2.drop k).append (HL.out.2.2.take k)) (HR.out.cu.below kx.bel) (by have := F1.out; show pg ≤ 1000000; omega)
          rw [prgB_turn, hr] at h
          exact h
        have cP2 : ∀ kx : Ext w11, Calls Try.prog 26 #[.slice A11 (n + 1) c11, .agg #[.int .i64 ge, .int .i64 ph, .int .i64 tg, .int .i64 tx, .int .i64 rt, .int .i64 pg, .int .i64 li, .slice A' cu.length c']] kx.w fun e w' => e = .returned (.bool false) ∧ Below kx.w.heap.size kx.w w' := fun kx => by
          have h := pright_any A11 (n + 1) c11 (hs ++ [(id, some ⟨zv19, 0, none⟩, 256, 256)]) (l ++ [(id, List.replicate 256 0)]) ⟨ge, ph, tg, tx, rt, pg, li, cu⟩ A' c' kx.w (HO11.out.below kx.bel) (by rw [List.length_append, HL.out.2.1]; rfl) (HL.out.2.2.append (Hl.one List.length_replicate (by omega) HP.out.2.2)) (HR.out.cu.below kx.bel) (by have := F1.out; show pg ≤ 1000000; omega)
          rw [HP.out.2.1, prgB_twice l k lp _ _ HP.out.1 List.length_replicate] at h
          exact h
        have cRr : ∀ kx : Ext w11, Calls Try.prog 10 #[.slice (some ad) n c, .agg #[.int .i64 ge, .int .i64 ph, .int .i64 tg, .int .i64 tx, .int .i64 rt, .int .i64 pg, .int .i64 li, .slice A' cu.length c']] kx.w fun e w' => e = .returned (.bool r) ∧ Below kx.w.heap.size kx.w w' := fun kx => by
          have h := rpright_any (some ad) n c hs l ⟨ge, ph, tg, tx, rt, pg, li, cu⟩ A' c' kx.w ((HR.out.rl.below kx.bel).rc (by have := F1.out; omega)) HL.out.2.1 HL.out.2.2 hcl.out
          rw [hr] at h
          exact h
        obtain ⟨y0, y1, y2, y3, y4, y5, y6, y7⟩ := hY.out _ HR.out.r0
        go_upto_region 6 with fail
        clear hr hmk hkl hnl
        refine wp_region_ext (by kernel_rfl) (by kernel_rfl) ?_
        have a0 := cell_ext y0
        have a1 := cell_ext y1
        have a2 := cell_ext y2
        have a3 := cell_ext y3
        have a4 := cell_ext y4
        have a5 := cell_ext y5
        have a6 := cell_ext y6
        have a7 := cell_ext y7
        clear y0 y1 y2 y3 y4 y5 y6 y7
        repeat (go_big_quiet_step (first
          | (go_at_call 11; exact Calls.ext_of (cAl _))
          | (go_at_call 26; with_reducible exact Calls.ext_of (cP1 _))
          | (go_at_call 26; with_reducible exact Calls.ext_of (cP2 _))
          | (go_at_call 10; with_reducible exact Calls.ext_of (cRr _))))
        refine wpQuiet_nil ?_
        rintro w' ⟨kx, rfl⟩
        clear a0 a1 a2 a3 a4 a5 a6 a7
        have HZ := Aside0.mk (HR.out.step kx.bel).bel
        go_wp2_with fail
        try go_ret
        exact ⟨rfl, HZ.out⟩
end Go.Proofs.Ythhalmjapiempaa
