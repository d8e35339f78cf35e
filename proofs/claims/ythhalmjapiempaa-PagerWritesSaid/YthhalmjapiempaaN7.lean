/- The walk of a pager's Format. -/
import Derived.Test.YthhalmjapiempaaN6
set_option linter.unusedVariables false
set_option linter.unusedSimpArgs false
namespace Go.Proofs.Ythhalmjapiempaa
open Go.RowKit

def MV.was (m : MV) : MV := { m with tx := m.tx - 1 }
def formatL (l : List (Int × List UInt8)) (m : MV) : List (Int × List UInt8) := [((m.tx - 1) % 2, encM m.was), (m.tx % 2, encM m)] ++ l ++ [(0, [])]
def formatS (d : DV) (l : List (Int × List UInt8)) (m : MV) : Int × DV := if prgB l m = true ∧ ¬m.tx < 2 then allS d m.pg (formatL l m) else (1, d)
theorem was_right {ge ph tg tx rt pg li : Int} {n : Nat} (h : mrightB ge ph tg tx rt pg li n = true) (h2 : 2 ≤ tx) : mrightB ge ph tg (tx - 1) rt pg li n = true := by
  obtain ⟨h0, h1⟩ := of_decide_eq_true h
  exact decide_eq_true (by refine ⟨h0, ?_⟩; omega)
set_option maxHeartbeats 16000000 in
set_option maxRecDepth 100000 in
theorem format_h {w0 : World} {g gp : Nat} {R : List (Nat × Obj)} {d : DV} {W : World} (h : DH w0 g R d W) (hp : (gp, pgo g) ∈ R) (A : Option Addr) (n c : Nat) (hs : List (Int × Option Addr × Nat × Nat)) (l : List (Int × List UInt8)) (m : MV) (A' : Option Addr) (c' : Nat) (rl : Nat) (op : Int)
    (hr : Rc W 2 A n c (wv hs)) (hh : Hs w0 R W hs l) (hl : hs.length = n) (hm : Bs W A' m.cu.length c' m.cu) (hab : AB d rl op) (hrl : rl + totB l ≤ 800000) (hn : n ≤ 100000) (hop : op + n ≤ 800000) (hpg : m.pg ≤ 1000000) :
    Calls Try.prog 23 #[.pointer (some ⟨gp, 0, none⟩), .slice A n c, .agg (m.agg A' c')] W fun e w' => e = .returned (.int .i64 (formatS d l m).1) ∧ DH w0 g R (formatS d l m).2 w' := by
  obtain ⟨ge, ph, tg, tx, rt, pg, li, cu⟩ := m
  obtain ⟨bx, hbx⟩ : ∃ b : Obj, Obj.cells #[.int .i64 ge, .int .i64 ph, .int .i64 tg, .int .i64 tx, .int .i64 rt, .int .i64 pg, .int .i64 li, .slice A' cu.length c'] 36 = b := ⟨_, rfl⟩
  have hbel0 : Below W.heap.size W (W.alloc bx) := (Below.refl _ W).alloc (Nat.le_refl _) bx
  have H0 := Aside0.mk (And.intro (h.lit bx) (And.intro (hr.below hbel0) (And.intro ((hh.up (R1 := (W.heap.size, bx) :: R) (fun p hp => List.mem_cons_of_mem _ hp)).below hbel0) (hm.below hbel0))))
  have HX := Aside0.mk (And.intro hp (And.intro hl (And.intro hab (And.intro hrl hop))))
  have hlim := hr.lim
  have hcl := hm.lim
  clear h hp hr hh hl hm hab hrl hop hbel0
  show Calls Try.prog 23 #[.pointer (some ⟨gp, 0, none⟩), .slice A n c, .agg #[.int .i64 ge, .int .i64 ph, .int .i64 tg, .int .i64 tx, .int .i64 rt, .int .i64 pg, .int .i64 li, .slice A' cu.length c']] W _
  go_enter Try.func23, Try.ntmps23
  go_upto_region 1 with fail
  obtain ⟨W0, hW0⟩ : ∃ X, W.alloc bx = X := ⟨_, rfl⟩
  obtain ⟨N0, hN0⟩ : ∃ X, W.heap.size = X := ⟨_, rfl⟩
  rw [hW0, hN0] at H0
  rw [hW0, hN0]
  have hr0 := H0.out.1.row (i := N0) (o := bx) List.mem_cons_self
  rw [← hbx] at hr0
  obtain ⟨y0, y1, y2, y3, y4, y5, y6, y7⟩ := row8_cells hr0
  have HBX := Aside0.mk hbx
  clear hW0 hN0 hr0 hbx
  cases hR : prgB l ⟨ge, ph, tg, tx, rt, pg, li, cu⟩ with
  | false =>
    have HC := Aside0.mk (show formatS d l ⟨ge, ph, tg, tx, rt, pg, li, cu⟩ = (1, d) from if_neg (by rw [hR]; exact fun q => by cases q.1))
    go_wp2_with (go_at_call 26; refine (pright_any A n c hs l ⟨ge, ph, tg, tx, rt, pg, li, cu⟩ A' c' W0 H0.out.2.1 HX.out.2.1 H0.out.2.2.1.hl H0.out.2.2.2 hpg).mono ?_; rintro e w1 ⟨rfl, hB⟩; rw [hR]; (have H1 := Aside0.mk (H0.out.1.step hB)); clear hB)
    go_ret
    rw [HC.out]
    exact ⟨rfl, H1.out.drop (fun p hp => List.mem_cons_of_mem _ hp)⟩
  | true =>
    have hmr : mrightB ge ph tg tx rt pg li cu.length = true := by
      unfold prgB at hR
      rw [Bool.and_eq_true] at hR
      exact hR.2
    have BD := Aside0.mk (right_bounds hmr)
    have HMR := Aside0.mk hmr
    clear hmr
    have HRR := Aside0.mk hR
    by_cases ht : tx < 2
    · have HC := Aside0.mk (show formatS d l ⟨ge, ph, tg, tx, rt, pg, li, cu⟩ = (1, d) from if_neg (fun q => q.2 ht))
      have d1 : decide (tx < 2) = true := decide_eq_true ht
      go_wp2_with (go_at_call 26; refine (pright_any A n c hs l ⟨ge, ph, tg, tx, rt, pg, li, cu⟩ A' c' W0 H0.out.2.1 HX.out.2.1 H0.out.2.2.1.hl H0.out.2.2.2 hpg).mono ?_; rintro e w1 ⟨rfl, hB⟩; rw [hR]; (have H1 := Aside0.mk (H0.out.1.step hB)); (have hr0 := H1.out.row (i := N0) (o := bx) List.mem_cons_self); rw [← HBX.out] at hr0; clear y0 y1 y2 y3 y4 y5 y6 y7; (obtain ⟨y0, y1, y2, y3, y4, y5, y6, y7⟩ := row8_cells hr0); clear hB hr0)
      go_ret
      rw [HC.out]
      exact ⟨rfl, H1.out.drop (fun p hp => List.mem_cons_of_mem _ hp)⟩
    have d1 : decide (tx < 2) = false := decide_eq_false ht
    obtain ⟨aw, haw⟩ : ∃ x, (tx - 1) % 2 = x := ⟨_, rfl⟩
    obtain ⟨at_, hat⟩ : ∃ x, tx % 2 = x := ⟨_, rfl⟩
    have hatb : 0 ≤ at_ ∧ at_ ≤ 1 ∧ 0 ≤ aw ∧ aw ≤ 1 := by omega
    obtain ⟨en, hen⟩ : ∃ x, encP ge ph tg tx rt pg li cu = x := ⟨_, rfl⟩
    obtain ⟨ew, hew⟩ : ∃ x, encP ge ph tg (tx - 1) rt pg li cu = x := ⟨_, rfl⟩
    have HC := Aside0.mk (show formatS d l ⟨ge, ph, tg, tx, rt, pg, li, cu⟩ = allS d pg ([(aw, ew), (at_, en)] ++ l ++ [(0, [])]) by rw [← hat, ← haw, ← hen, ← hew]; exact if_pos ⟨hR, ht⟩)
    have HEN := Aside0.mk (And.intro hen hew)
    have HPM := Aside0.mk (prgB_mem hR)
    have iw : IntKind.i64.wrap (tx - 1) = tx - 1 := IntWalk.i64_in _ (by have := BD.out; omega)
    have HTX := Aside0.mk (show 2 ≤ tx by omega)
    clear ht
    clear hen hew
    go_upto_region 3 with (go_at_call 26; refine (pright_any A n c hs l ⟨ge, ph, tg, tx, rt, pg, li, cu⟩ A' c' W0 H0.out.2.1 HX.out.2.1 H0.out.2.2.1.hl H0.out.2.2.2 hpg).mono ?_; rintro e w1 ⟨rfl, hB⟩; rw [hR]; (have H1 := Aside0.mk (And.intro (H0.out.1.step hB) (And.intro (H0.out.2.1.below hB) (And.intro (H0.out.2.2.1.below hB) (H0.out.2.2.2.below hB))))); (have hr0 := H1.out.1.row (i := N0) (o := bx) List.mem_cons_self); rw [← HBX.out] at hr0; clear y0 y1 y2 y3 y4 y5 y6 y7; (obtain ⟨y0, y1, y2, y3, y4, y5, y6, y7⟩ := row8_cells hr0); clear hB hr0)
    clear hR d1
    have HLE := Aside0.mk (show en.length = 256 ∧ ew.length = 256 by rw [← HEN.out.1, ← HEN.out.2, enc_eq HMR.out, enc_eq (was_right HMR.out HTX.out)]; exact ⟨(encR_read HMR.out).1, (encR_read (was_right HMR.out HTX.out)).1⟩)
    go_upto_region 4 with (go_at_call 43; refine (mencode_any ge ph tg tx rt pg li A' cu.length c' cu w1 H1.out.2.2.2).mono ?_; rintro e w2 ⟨hB, hc⟩; (have hc := hc.resolve_left (fun z => by have := HMR.out; rw [z.1] at this; cases this)); (obtain ⟨_, A7, c7, rfl, hO⟩ := hc); rw [HEN.out.1, HLE.out.1] at hO; rw [HEN.out.1, HLE.out.1]; (obtain ⟨R2, hD2, hI2, hs2⟩ := H1.out.1.own hB hO); (have H2 := Aside0.mk (And.intro hD2 (And.intro hI2 (And.intro hs2 (And.intro hO.bs (And.intro (H1.out.2.1.below hB) (And.intro (H1.out.2.2.1.below hB) (H1.out.2.2.2.below hB)))))))); (have hr0 := hD2.row (i := N0) (o := bx) (hs2 _ List.mem_cons_self)); rw [← HBX.out] at hr0; clear y0 y1 y2 y3 y4 y5 y6 y7; (obtain ⟨y0, y1, y2, y3, y4, y5, y6, y7⟩ := row8_cells hr0); clear hO hB hr0 hD2 hI2 hs2)
    go_upto_region 6 with fail
    obtain ⟨N1, hN1⟩ : ∃ N, w2.heap.size = N := ⟨_, rfl⟩
    obtain ⟨bw, hbw⟩ : ∃ o, Obj.cells #[.int .i64 ge, .int .i64 ph, .int .i64 tg, .int .i64 (tx - 1), .int .i64 rt, .int .i64 pg, .int .i64 li, .slice A' cu.length c'] 36 = o := ⟨_, rfl⟩
    have hB2 := (Below.refl _ w2).alloc (Nat.le_refl _) bw
    have hD2 := H2.out.1.lit bw
    rw [hN1] at hD2
    have h2 := And.intro hD2 (And.intro (H2.out.2.2.2.1.below hB2) (And.intro (H2.out.2.2.2.2.1.below hB2) (And.intro (H2.out.2.2.2.2.2.1.below hB2) (H2.out.2.2.2.2.2.2.below hB2))))
    rw [hN1, hbw]
    clear hD2 hB2 hN1
    obtain ⟨wb, hwb⟩ : ∃ X, w2.alloc bw = X := ⟨_, rfl⟩
    rw [hwb] at h2 ⊢
    have HB2 := Aside0.mk h2
    have HBW := Aside0.mk hbw
    have HIN := Aside0.mk (show ((N0, bx) : Nat × Obj) ∈ (N1, bw) :: R2 from List.mem_cons_of_mem _ (H2.out.2.2.1 _ List.mem_cons_self))
    have hr0 := h2.1.row (i := N0) (o := bx) HIN.out
    rw [← HBX.out] at hr0
    clear y0 y1 y2 y3 y4 y5 y6 y7
    obtain ⟨y0, y1, y2, y3, y4, y5, y6, y7⟩ := row8_cells hr0
    have hr1 := h2.1.row (i := N1) (o := bw) List.mem_cons_self
    rw [← hbw] at hr1
    obtain ⟨z0, z1, z2, z3, z4, z5, z6, z7⟩ := row8_cells hr1
    clear h2 hr0 hr1 hwb hbw iw
    go_upto_region 7 with (go_at_call 43; refine (mencode_any ge ph tg (tx - 1) rt pg li A' cu.length c' cu wb HB2.out.2.2.2.2).mono ?_; rintro e w4 ⟨hB, hc⟩; (have hc := hc.resolve_left (fun z => by have := was_right HMR.out HTX.out; rw [z.1] at this; cases this)); (obtain ⟨_, A8, c8, rfl, hO⟩ := hc); rw [HEN.out.2, HLE.out.2] at hO; rw [HEN.out.2, HLE.out.2]; (obtain ⟨R4, hD4, hI4, hs4⟩ := HB2.out.1.own hB hO); (have H4 := Aside0.mk (And.intro hD4 (And.intro hI4 (And.intro hs4 (And.intro hO.bs (And.intro (HB2.out.2.1.below hB) (And.intro (HB2.out.2.2.1.below hB) (HB2.out.2.2.2.1.below hB)))))))); clear hO hB hD4 hI4 hs4)
    clear y0 y1 y2 y3 y4 y5 y6 y7 z0 z1 z2 z3 z4 z5 z6 z7
    have hdr : Below w4.heap.size w4 w4.drew := below_drew (Below.refl _ _)
    have h3 := And.intro (H4.out.1.step hdr) (And.intro (H4.out.2.2.2.1.below hdr) (And.intro (H4.out.2.2.2.2.1.below hdr) (And.intro (H4.out.2.2.2.2.2.1.below hdr) (H4.out.2.2.2.2.2.2.below hdr))))
    clear hdr
    obtain ⟨W3, hW3⟩ : ∃ X, w4.drew = X := ⟨_, rfl⟩
    rw [hW3] at h3
    have HS7 := Aside0.mk (show W3.cell? ⟨N0, 3, none⟩ = some (.int .i64 tx) ∧ W3.cell? ⟨N1, 3, none⟩ = some (.int .i64 (tx - 1)) by
      have hr0 := h3.1.row (i := N0) (o := bx) (H4.out.2.2.1 _ HIN.out)
      rw [← HBX.out] at hr0
      have hr1 := h3.1.row (i := N1) (o := bw) (H4.out.2.2.1 _ List.mem_cons_self)
      rw [← HBW.out] at hr1
      exact ⟨(row8_cells hr0).2.2.2.1, (row8_cells hr1).2.2.2.1⟩)
    obtain ⟨NF, hNF⟩ : ∃ N, W3.heap.size = N := ⟨_, rfl⟩
    have HZ : Hs w0 R4 W3 ([(aw, A8, 256, c8), (at_, A7, 256, c7)] ++ hs ++ [(0, none, 0, 0)]) ([(aw, ew), (at_, en)] ++ l ++ [(0, [])]) := by
      refine (Hs.append ?_ (h3.2.2.2.2.up (fun p hp => H4.out.2.2.1 p (List.mem_cons_of_mem _ (H2.out.2.2.1 p hp))))).append (Hs.one (Bs.nil _ _ _ (by omega)) (fun h => absurd h (by omega)) (by omega))
      refine Hs.append (Hs.one (i := aw) h3.2.1 (fun h0 a e => ?_) (by omega)) (Hs.one (i := at_) h3.2.2.1 (fun h0 a e => ?_) (by omega))
      · obtain ⟨i, o, e2, q⟩ := H4.out.2.1 h0
        rw [e2] at e
        injection e with e
        rw [← e]
        exact .inr ⟨o, q⟩
      · obtain ⟨i, o, e2, q⟩ := H2.out.2.1 h0
        rw [e2] at e
        injection e with e
        rw [← e]
        exact .inr ⟨o, H4.out.2.2.1 _ (List.mem_cons_of_mem _ q)⟩
    have HSX := Aside0.mk (show ∀ w' : World, Below NF W3 w' → w'.cell? ⟨N0, 5, none⟩ = some (.int .i64 pg) by
      intro w' hB
      rw [← hNF] at hB
      have hr0 := (h3.1.step hB).row (i := N0) (o := bx) (H4.out.2.2.1 _ HIN.out)
      rw [← HBX.out] at hr0
      exact (row8_cells hr0).2.2.2.2.2.1)
    have hF0 := oc_lit (W := W3) W3.heap.size (Nat.le_refl _) [(aw, A8, 256, c8), (at_, A7, 256, c7)] 2 rfl (by omega) #[.int .i64 aw, .slice A8 256 c8, .int .i64 at_, .slice A7 256 c7] rfl
    have hB4 := ((Below.refl _ W3).alloc (Nat.le_refl _) (.cells #[.int .i64 aw, .slice A8 256 c8, .int .i64 at_, .slice A7 256 c7] 92))
    rw [hNF] at hF0 hB4
    have HS8 := Aside0.mk (show ∀ w' : World, Below NF W3 w' → w'.cell? ⟨N0, 3, none⟩ = some (.int .i64 tx) ∧ w'.cell? ⟨N1, 3, none⟩ = some (.int .i64 (tx - 1)) by
      intro w' hB
      rw [← hNF] at hB
      exact ⟨cell_below hB HS7.out.1, cell_below hB HS7.out.2⟩)
    refine wp_region_M (fun j => decide (j < 11)) (fun w' => w'.cell? ⟨N0, 3, none⟩ = some (.int .i64 tx) ∧ w'.cell? ⟨N1, 3, none⟩ = some (.int .i64 (tx - 1))) (by kernel_rfl) ?_
    rw [hW3]
    refine wpAnyM_take (i := 0) (v := ?_) (by simp only [List.getElem?_toArray, List.getElem?_cons_succ, List.getElem?_cons_zero]; rfl) (by kernel_rfl) (by kernel_rfl) (by kernel_rfl) (by kernel_rfl) (by exact fun _ _ _ h => h) (Or.inl ⟨by rfl, ?_⟩) HS7.out ?_
    rotate_left
    · (intro w' hSw; (try dsimp only at hSw); go_simp; try with_reducible rfl)
    try simp only [Act.put, List.setIfInBounds_toArray, List.set_cons_zero, List.set_cons_succ]
    refine wpAnyM_take (i := 1) (v := ?_) (by simp only [List.getElem?_toArray, List.getElem?_cons_succ, List.getElem?_cons_zero]; rfl) (by kernel_rfl) (by kernel_rfl) (by kernel_rfl) (by kernel_rfl) (by exact fun _ _ _ h => h) (Or.inl ⟨by rfl, ?_⟩) HS7.out ?_
    rotate_left
    · (intro w' hSw; (try dsimp only at hSw); go_simp; try with_reducible rfl)
    try simp only [Act.put, List.setIfInBounds_toArray, List.set_cons_zero, List.set_cons_succ]
    refine wpAnyM_take (i := 3) (v := ?_) (by simp only [List.getElem?_toArray, List.getElem?_cons_succ, List.getElem?_cons_zero]; rfl) (by kernel_rfl) (by kernel_rfl) (by kernel_rfl) (by kernel_rfl) (by exact fun _ _ _ h => h) (Or.inl ⟨by rfl, ?_⟩) HS7.out ?_
    rotate_left
    · (intro w' hSw; (try dsimp only at hSw); go_simp; try with_reducible rfl)
    try simp only [Act.put, List.setIfInBounds_toArray, List.set_cons_zero, List.set_cons_succ]
    refine wpAnyM_take (i := 5) (v := ?_) (by simp only [List.getElem?_toArray, List.getElem?_cons_succ, List.getElem?_cons_zero]; rfl) (by kernel_rfl) (by kernel_rfl) (by kernel_rfl) (by kernel_rfl) (by exact fun _ _ _ h => h) (Or.inl ⟨by rfl, ?_⟩) HS7.out ?_
    rotate_left
    · (intro w' hSw; (try dsimp only at hSw); go_simp; try with_reducible rfl)
    try simp only [Act.put, List.setIfInBounds_toArray, List.set_cons_zero, List.set_cons_succ]
    refine wpAnyM_take (i := 6) (v := ?_) (by simp only [List.getElem?_toArray, List.getElem?_cons_succ, List.getElem?_cons_zero]; rfl) (by kernel_rfl) (by kernel_rfl) (by kernel_rfl) (by kernel_rfl) (by exact fun _ _ _ h => h) (Or.inl ⟨by rfl, ?_⟩) HS7.out ?_
    rotate_left
    · (intro w' hSw; (try dsimp only at hSw); go_simp; try with_reducible rfl)
    try simp only [Act.put, List.setIfInBounds_toArray, List.set_cons_zero, List.set_cons_succ]
    refine wpAnyM_take (i := 8) (v := ?_) (by simp only [List.getElem?_toArray, List.getElem?_cons_succ, List.getElem?_cons_zero]; rfl) (by kernel_rfl) (by kernel_rfl) (by kernel_rfl) (by kernel_rfl) (by exact fun _ _ _ h => h) (Or.inl ⟨by rfl, ?_⟩) HS7.out ?_
    rotate_left
    · (intro w' hSw; (try dsimp only at hSw); go_simp; try with_reducible rfl)
    try simp only [Act.put, List.setIfInBounds_toArray, List.set_cons_zero, List.set_cons_succ]
    refine wpAnyM_one (i := 2) (by kernel_rfl) (by simp only [List.getElem?_toArray, List.getElem?_cons_succ, List.getElem?_cons_zero]; rfl) ?_
    go_wp2_with (go_at_call 44; refine (slot_any (tx - 1) W3).mono ?_; rintro e w5 ⟨rfl, rfl⟩; rw [haw])
    refine ⟨HS7.out, ?_⟩
    try simp only [Act.put, List.setIfInBounds_toArray, List.set_cons_zero, List.set_cons_succ]
    refine wpAnyM_take (i := 4) (v := ?_) (by simp only [List.getElem?_toArray, List.getElem?_cons_succ, List.getElem?_cons_zero]; rfl) (by kernel_rfl) (by kernel_rfl) (by kernel_rfl) (by kernel_rfl) (by exact fun _ _ _ h => h) (Or.inl ⟨by rfl, ?_⟩) HS7.out ?_
    rotate_left
    · (intro w' hSw; (try dsimp only at hSw); go_simp; try with_reducible rfl)
    try simp only [Act.put, List.setIfInBounds_toArray, List.set_cons_zero, List.set_cons_succ]
    refine wpAnyM_one (i := 7) (by kernel_rfl) (by simp only [List.getElem?_toArray, List.getElem?_cons_succ, List.getElem?_cons_zero]; rfl) ?_
    go_wp2_with (go_at_call 44; refine (slot_any tx W3).mono ?_; rintro e w5 ⟨rfl, rfl⟩; rw [hat])
    refine ⟨HS7.out, ?_⟩
    try simp only [Act.put, List.setIfInBounds_toArray, List.set_cons_zero, List.set_cons_succ]
    refine wpAnyM_take (i := 9) (v := ?_) (by simp only [List.getElem?_toArray, List.getElem?_cons_succ, List.getElem?_cons_zero]; rfl) (by kernel_rfl) (by kernel_rfl) (by kernel_rfl) (by kernel_rfl) (by exact fun _ _ _ h => h) (Or.inl ⟨by rfl, ?_⟩) HS7.out ?_
    rotate_left
    · (intro w' hSw; (try dsimp only at hSw); go_simp; try with_reducible rfl)
    try simp only [Act.put, List.setIfInBounds_toArray, List.set_cons_zero, List.set_cons_succ]
    refine wpAnyM_one (i := 10) (by kernel_rfl) (by simp only [List.getElem?_toArray, List.getElem?_cons_succ, List.getElem?_cons_zero]; rfl) ?_
    go_wp2_with fail
    refine ⟨HS8.out _ hB4, ?_⟩
    try simp only [Act.put, List.setIfInBounds_toArray, List.set_cons_zero, List.set_cons_succ]
    try rw [hNF]
    obtain ⟨W4, hW4⟩ : ∃ X, W3.alloc (.cells #[.int .i64 aw, .slice A8 256 c8, .int .i64 at_, .slice A7 256 c7] 92) = X := ⟨_, rfl⟩
    rw [hW4] at hF0 hB4 ⊢
    refine wpAnyM_take (i := 11) (v := ?_) (by simp only [List.getElem?_toArray, List.getElem?_cons_succ, List.getElem?_cons_zero]; rfl) (by kernel_rfl) (by kernel_rfl) (by kernel_rfl) (by kernel_rfl) (by exact fun _ _ _ h => h) (Or.inl ⟨by rfl, ?_⟩) (HS8.out _ hB4) ?_
    rotate_left
    · (intro w' hSw; (try dsimp only at hSw); go_simp; try with_reducible rfl)
    try simp only [Act.put, List.setIfInBounds_toArray, List.set_cons_zero, List.set_cons_succ]
    refine wpAnyM_done (by kernel_rfl) ?_ _
    have hdr : Below W4.heap.size W4 W4.drew := below_drew (Below.refl _ _)
    have hsz4 : NF ≤ W4.heap.size := by rw [← hNF]; exact hB4.size
    have HWd := Aside0.mk (And.intro (hF0.below hdr) (And.intro (below_then hB4 hsz4 hdr) (h3.2.2.2.1.below (by rw [hNF]; exact below_then hB4 hsz4 hdr))))
    have H3 := Aside0.mk (And.intro h3.1 (And.intro HZ hNF))
    have HSZ := Aside0.mk (show ∀ w' : World, Below NF W3 w' → NF ≤ w'.heap.size by intro w' hB; rw [← hNF]; exact hB.size)
    have HSUB := Aside0.mk (show ∀ p ∈ R, p ∈ R4 from fun p hp => H4.out.2.2.1 p (List.mem_cons_of_mem _ (H2.out.2.2.1 p (List.mem_cons_of_mem _ hp))))
    have HS0 := Aside0.mk (HSX.out _ HWd.out.2.1)
    have HAL := Aside0.mk (show rl + totB ([(aw, ew), (at_, en)] ++ l ++ [(0, [])]) ≤ 900000 ∧ (∀ q ∈ [(aw, ew), (at_, en)] ++ l ++ [(0, [])], -1000000 ≤ q.1 ∧ q.1 ≤ 1000000) by
      constructor
      · rw [totB_append, totB_append]
        have e1 : totB [(aw, ew), (at_, en)] = 512 := by simp [totB, HLE.out]
        have e2 : totB [(0, [])] = 0 := by simp [totB]
        have := HX.out.2.2.2.1
        omega
      · intro q hq
        rcases List.mem_append.1 hq with hq | hq
        · rcases List.mem_append.1 hq with hq | hq
          · simp only [List.mem_cons, List.not_mem_nil, or_false] at hq
            rcases hq with rfl | rfl
            · exact ⟨by show -1000000 ≤ aw; omega, by show aw ≤ 1000000; omega⟩
            · exact ⟨by show -1000000 ≤ at_; omega, by show at_ ≤ 1000000; omega⟩
          · have := HPM.out q hq
            have h2 : q.1 ≤ pg := this.2.1
            omega
        · obtain rfl := List.mem_singleton.1 hq
          exact ⟨by decide, by decide⟩)
    clear h3 HZ hF0 hB4 hdr hsz4 hW4 hNF hW3
    go_upto_region 8 with fail
    obtain ⟨Wd, hWd⟩ : ∃ X, W4.drew = X := ⟨_, rfl⟩
    rw [hWd] at HWd HS0
    have HFWd := Aside0.mk HWd.out.1
    have HBWd := Aside0.mk HWd.out.2.1
    have HCWd := Aside0.mk HWd.out.2.2
    clear HWd
    refine wp_region_M (fun j => decide (j < 10)) (fun w' => w'.cell? ⟨N0, 5, none⟩ = some (.int .i64 pg)) (by kernel_rfl) ?_
    rw [hWd]
    refine wpAnyM_take (i := 0) (v := ?_) (by simp only [List.getElem?_toArray, List.getElem?_cons_succ, List.getElem?_cons_zero]; rfl) (by kernel_rfl) (by kernel_rfl) (by kernel_rfl) (by kernel_rfl) (by exact fun _ _ _ h => h) (Or.inl ⟨by rfl, ?_⟩) HS0.out ?_
    rotate_left
    · (intro w' hSw; (try dsimp only at hSw); go_simp; try with_reducible rfl)
    try simp only [Act.put, List.setIfInBounds_toArray, List.set_cons_zero, List.set_cons_succ]
    refine wpAnyM_take (i := 1) (v := ?_) (by simp only [List.getElem?_toArray, List.getElem?_cons_succ, List.getElem?_cons_zero]; rfl) (by kernel_rfl) (by kernel_rfl) (by kernel_rfl) (by kernel_rfl) (by exact fun _ _ _ h => h) (Or.inl ⟨by rfl, ?_⟩) HS0.out ?_
    rotate_left
    · (intro w' hSw; (try dsimp only at hSw); go_simp; try with_reducible rfl)
    try simp only [Act.put, List.setIfInBounds_toArray, List.set_cons_zero, List.set_cons_succ]
    refine wpAnyM_take (i := 2) (v := ?_) (by simp only [List.getElem?_toArray, List.getElem?_cons_succ, List.getElem?_cons_zero]; rfl) (by kernel_rfl) (by kernel_rfl) (by kernel_rfl) (by kernel_rfl) (by exact fun _ _ _ h => h) (Or.inl ⟨by rfl, ?_⟩) HS0.out ?_
    rotate_left
    · (intro w' hSw; (try dsimp only at hSw); go_simp; try with_reducible rfl)
    try simp only [Act.put, List.setIfInBounds_toArray, List.set_cons_zero, List.set_cons_succ]
    refine wpAnyM_take (i := 3) (v := ?_) (by simp only [List.getElem?_toArray, List.getElem?_cons_succ, List.getElem?_cons_zero]; rfl) (by kernel_rfl) (by kernel_rfl) (by kernel_rfl) (by kernel_rfl) (by exact fun _ _ _ h => h) (Or.inl ⟨by rfl, ?_⟩) HS0.out ?_
    rotate_left
    · (intro w' hSw; (try dsimp only at hSw); go_simp; try with_reducible rfl)
    try simp only [Act.put, List.setIfInBounds_toArray, List.set_cons_zero, List.set_cons_succ]
    refine wpAnyM_take (i := 4) (v := ?_) (by simp only [List.getElem?_toArray, List.getElem?_cons_succ, List.getElem?_cons_zero]; rfl) (by kernel_rfl) (by kernel_rfl) (by kernel_rfl) (by kernel_rfl) (by exact fun _ _ _ h => h) (Or.inl ⟨by rfl, ?_⟩) HS0.out ?_
    rotate_left
    · (intro w' hSw; (try dsimp only at hSw); go_simp; try with_reducible rfl)
    try simp only [Act.put, List.setIfInBounds_toArray, List.set_cons_zero, List.set_cons_succ]
    refine wpAnyM_take (i := 7) (v := ?_) (by simp only [List.getElem?_toArray, List.getElem?_cons_succ, List.getElem?_cons_zero]; rfl) (by kernel_rfl) (by kernel_rfl) (by kernel_rfl) (by kernel_rfl) (by exact fun _ _ _ h => h) (Or.inl ⟨by rfl, ?_⟩) HS0.out ?_
    rotate_left
    · (intro w' hSw; (try dsimp only at hSw); go_simp; try with_reducible rfl)
    try simp only [Act.put, List.setIfInBounds_toArray, List.set_cons_zero, List.set_cons_succ]
    refine wpAnyM_pair (i := 5) (k := 8) (by kernel_rfl) (by simp only [List.getElem?_toArray, List.getElem?_cons_succ, List.getElem?_cons_zero]; rfl) (by simp only [List.getElem?_toArray, List.getElem?_cons_succ, List.getElem?_cons_zero]; rfl) ?_ ?_
    · skip
      go_wp2_with (go_at_call 46; refine (pops_any A n c hs Wd HCWd.out HX.out.2.1).mono ?_; rintro e w5 ⟨A9, c9, rfl, hO, hB⟩; (have HOw5 := Aside0.mk hO.rc); (have HFw5 := Aside0.mk (HFWd.out.below hB)); (have HBw5 := Aside0.mk (below_then HBWd.out (HSZ.out _ HBWd.out) hB)); clear hO hB)
      refine ⟨HSX.out _ HBw5.out, ?_⟩
      try simp only [Act.put, List.setIfInBounds_toArray, List.set_cons_zero, List.set_cons_succ]
      refine wpAnyM_pair (i := 6) (k := 8) (by kernel_rfl) (by simp only [List.getElem?_toArray, List.getElem?_cons_succ, List.getElem?_cons_zero]; rfl) (by simp only [List.getElem?_toArray, List.getElem?_cons_succ, List.getElem?_cons_zero]; rfl) ?_ ?_
      · skip
        refine wpl_two (w0 := W3) NF (by rfl) (.tmp 51) (.tmp 53) 93 92 zW 32 (by rfl) Try.underlying93 infoO rfl (by omega) (by omega) (some ⟨NF, 0, none⟩) 2 2 A9 n c9 [(aw, A8, 256, c8), (at_, A7, 256, c7)] hs (by rfl) (by rfl) HFw5.out HOw5.out (HSZ.out _ HBw5.out) (by omega) HBw5.out ?_
        intro Aw6 cw6 w6 hO hB hG
        have HFw6 := Aside0.mk hO.out
        have HBw6 := Aside0.mk hB.out
        clear hO hB hG
        refine wpl_nil ⟨rfl, fun _ => HSX.out _ HBw6.out, ?_⟩
        try simp only [Act.put, List.setIfInBounds_toArray, List.set_cons_zero, List.set_cons_succ]
        refine wpAnyM_one (i := 8) (by kernel_rfl) (by simp only [List.getElem?_toArray, List.getElem?_cons_succ, List.getElem?_cons_zero]; rfl) ?_
        have hbk := (Below.refl _ w6).alloc (Nat.le_refl _) (.cells #[.int .i64 0, .slice none 0 0] 92)
        have hok := oc_lit (W := w6) w6.heap.size (Nat.le_refl _) [(0, none, 0, 0)] 1 rfl (by omega) #[.int .i64 0, .slice none 0 0] rfl
        have HNK := Aside0.mk (show NF < w6.heap.size by (obtain ⟨q, e, _, h⟩ := HFw6.out.head (by omega)); exact Nat.lt_of_le_of_lt (HFw6.out.lo q e) h)
        have HFw7 := Aside0.mk (HFw6.out.below hbk)
        have HBw7 := Aside0.mk (below_then HBw6.out (HSZ.out _ HBw6.out) hbk)
        have HKw7 := Aside0.mk hok
        clear hbk hok
        go_wp2_with fail
        refine ⟨HSX.out _ HBw7.out, ?_⟩
        obtain ⟨w7, hw7⟩ : ∃ X, w6.alloc (.cells #[.int .i64 0, .slice none 0 0] 92) = X := ⟨_, rfl⟩
        rw [hw7] at HFw7 HBw7 HKw7 ⊢
        clear hw7
        try simp only [Act.put, List.setIfInBounds_toArray, List.set_cons_zero, List.set_cons_succ]
        refine wpAnyM_one (i := 9) (by kernel_rfl) (by simp only [List.getElem?_toArray, List.getElem?_cons_succ, List.getElem?_cons_zero]; rfl) ?_
        refine wpl_two (w0 := W3) NF (by rfl) (.tmp 54) (.tmp 56) 93 92 zW 32 (by rfl) Try.underlying93 infoO rfl (by omega) (by omega) Aw6 (2 + n) cw6 (some ⟨w6.heap.size, 0, none⟩) 1 1 ([(aw, A8, 256, c8), (at_, A7, 256, c7)] ++ hs) [(0, none, 0, 0)] (by rfl) (by rfl) HFw7.out HKw7.out.rc (HSZ.out _ HBw7.out) (by omega) HBw7.out ?_
        intro Awz cwz wz hO hB hG
        have HFwz := Aside0.mk hO.out
        have HBwz := Aside0.mk hB.out
        clear hO hB hG
        refine wpl_nil ⟨rfl, fun _ => HSX.out _ HBwz.out, ?_⟩
        try simp only [Act.put, List.setIfInBounds_toArray, List.set_cons_zero, List.set_cons_succ]
        obtain ⟨q, rfl, hq1, hq2⟩ := HFwz.out.head (by omega)
        obtain ⟨o, ho⟩ := H3.out.1.holdx (by rw [H3.out.2.2]; exact HBwz.out) q (by rw [H3.out.2.2]; exact hq1) hq2
        have HG := Aside0.mk (And.intro ho (H3.out.2.1.below (by rw [H3.out.2.2]; exact HBwz.out)))
        clear ho hq1 hq2
        refine wpAnyM_one (i := 10) (by kernel_rfl) (by simp only [List.getElem?_toArray, List.getElem?_cons_succ, List.getElem?_cons_zero]; rfl) ?_
        go_wp2_with (go_at_call 45; refine (all_h HG.out.1 (List.mem_cons_of_mem _ (HSUB.out _ HX.out.1)) pg (some ⟨q, 0, none⟩) (2 + n + 1) cwz _ _ rl op HFwz.out.rc (fun _ a e => by injection e with e; rw [← e]; exact .inr ⟨_, List.mem_cons_self⟩) (HG.out.2.up (fun p hp => List.mem_cons_of_mem _ hp)) (by have := HX.out.2.1; simp; omega) HX.out.2.2.1 HAL.out.1 (by have := HX.out.2.2.2.2; omega) (by have := BD.out; omega) HAL.out.2).mono ?_; rintro e wy ⟨rfl, hH⟩; (have HY := Aside0.mk hH); clear hH)
        try simp only [Act.put, List.setIfInBounds_toArray, List.set_cons_zero, List.set_cons_succ]
        refine wpAnyM_take0 (i := 11) (v := ?_) (by simp only [List.getElem?_toArray, List.getElem?_cons_succ, List.getElem?_cons_zero]; rfl) (by kernel_rfl) (by kernel_rfl) (by kernel_rfl) (by rfl) (by exact fun _ _ _ h => h) (Or.inl ⟨by rfl, ?_⟩) ?_
        rotate_left
        · (intro w' _; go_simp; try with_reducible rfl)
        try simp only [Act.put, List.setIfInBounds_toArray, List.set_cons_zero, List.set_cons_succ]
        refine wpAnyM_done (by kernel_rfl) ?_ _
        go_wp2_with fail
        go_ret
        rw [HC.out]
        exact ⟨rfl, HY.out.drop (fun p hp => List.mem_cons_of_mem _ (HSUB.out _ hp))⟩
      · skip
        have hbk := (Below.refl _ w5).alloc (Nat.le_refl _) (.cells #[.int .i64 0, .slice none 0 0] 92)
        have hok := oc_lit (W := w5) w5.heap.size (Nat.le_refl _) [(0, none, 0, 0)] 1 rfl (by omega) #[.int .i64 0, .slice none 0 0] rfl
        have HNK := Aside0.mk (show NF < w5.heap.size by (obtain ⟨q, e, _, h⟩ := HFw5.out.head (by omega)); injection e with e; injection e with e; omega)
        have HFwk := Aside0.mk (HFw5.out.below hbk)
        have HBwk := Aside0.mk (below_then HBw5.out (HSZ.out _ HBw5.out) hbk)
        have HOwk := Aside0.mk (HOw5.out.below hbk)
        have HKwk := Aside0.mk hok
        clear hbk hok
        go_wp2_with fail
        refine ⟨HSX.out _ HBwk.out, ?_⟩
        obtain ⟨wk, hwk⟩ : ∃ X, w5.alloc (.cells #[.int .i64 0, .slice none 0 0] 92) = X := ⟨_, rfl⟩
        rw [hwk] at HFwk HBwk HKwk HOwk ⊢
        clear hwk
        try simp only [Act.put, List.setIfInBounds_toArray, List.set_cons_zero, List.set_cons_succ]
        refine wpAnyM_one (i := 6) (by kernel_rfl) (by simp only [List.getElem?_toArray, List.getElem?_cons_succ, List.getElem?_cons_zero]; rfl) ?_
        refine wpl_two (w0 := W3) NF (by rfl) (.tmp 51) (.tmp 53) 93 92 zW 32 (by rfl) Try.underlying93 infoO rfl (by omega) (by omega) (some ⟨NF, 0, none⟩) 2 2 A9 n c9 [(aw, A8, 256, c8), (at_, A7, 256, c7)] hs (by rfl) (by rfl) HFwk.out HOwk.out (HSZ.out _ HBwk.out) (by omega) HBwk.out ?_
        intro Aw6 cw6 w6 hO hB hG
        have HFw6 := Aside0.mk hO.out
        have HBw6 := Aside0.mk hB.out
        have HKw6 := Aside0.mk (HKwk.out.grw hG.out (fun i j e1 e2 => by injection e1 with e1; injection e1 with e1; injection e2 with e2; injection e2 with e2; have := HNK.out; omega))
        clear hO hB hG
        refine wpl_nil ⟨rfl, fun _ => HSX.out _ HBw6.out, ?_⟩
        try simp only [Act.put, List.setIfInBounds_toArray, List.set_cons_zero, List.set_cons_succ]
        refine wpAnyM_one (i := 9) (by kernel_rfl) (by simp only [List.getElem?_toArray, List.getElem?_cons_succ, List.getElem?_cons_zero]; rfl) ?_
        refine wpl_two (w0 := W3) NF (by rfl) (.tmp 54) (.tmp 56) 93 92 zW 32 (by rfl) Try.underlying93 infoO rfl (by omega) (by omega) Aw6 (2 + n) cw6 (some ⟨w5.heap.size, 0, none⟩) 1 1 ([(aw, A8, 256, c8), (at_, A7, 256, c7)] ++ hs) [(0, none, 0, 0)] (by rfl) (by rfl) HFw6.out HKw6.out.rc (HSZ.out _ HBw6.out) (by omega) HBw6.out ?_
        intro Awz cwz wz hO hB hG
        have HFwz := Aside0.mk hO.out
        have HBwz := Aside0.mk hB.out
        clear hO hB hG
        refine wpl_nil ⟨rfl, fun _ => HSX.out _ HBwz.out, ?_⟩
        try simp only [Act.put, List.setIfInBounds_toArray, List.set_cons_zero, List.set_cons_succ]
        obtain ⟨q, rfl, hq1, hq2⟩ := HFwz.out.head (by omega)
        obtain ⟨o, ho⟩ := H3.out.1.holdx (by rw [H3.out.2.2]; exact HBwz.out) q (by rw [H3.out.2.2]; exact hq1) hq2
        have HG := Aside0.mk (And.intro ho (H3.out.2.1.below (by rw [H3.out.2.2]; exact HBwz.out)))
        clear ho hq1 hq2
        refine wpAnyM_one (i := 10) (by kernel_rfl) (by simp only [List.getElem?_toArray, List.getElem?_cons_succ, List.getElem?_cons_zero]; rfl) ?_
        go_wp2_with (go_at_call 45; refine (all_h HG.out.1 (List.mem_cons_of_mem _ (HSUB.out _ HX.out.1)) pg (some ⟨q, 0, none⟩) (2 + n + 1) cwz _ _ rl op HFwz.out.rc (fun _ a e => by injection e with e; rw [← e]; exact .inr ⟨_, List.mem_cons_self⟩) (HG.out.2.up (fun p hp => List.mem_cons_of_mem _ hp)) (by have := HX.out.2.1; simp; omega) HX.out.2.2.1 HAL.out.1 (by have := HX.out.2.2.2.2; omega) (by have := BD.out; omega) HAL.out.2).mono ?_; rintro e wy ⟨rfl, hH⟩; (have HY := Aside0.mk hH); clear hH)
        try simp only [Act.put, List.setIfInBounds_toArray, List.set_cons_zero, List.set_cons_succ]
        refine wpAnyM_take0 (i := 11) (v := ?_) (by simp only [List.getElem?_toArray, List.getElem?_cons_succ, List.getElem?_cons_zero]; rfl) (by kernel_rfl) (by kernel_rfl) (by kernel_rfl) (by rfl) (by exact fun _ _ _ h => h) (Or.inl ⟨by rfl, ?_⟩) ?_
        rotate_left
        · (intro w' _; go_simp; try with_reducible rfl)
        try simp only [Act.put, List.setIfInBounds_toArray, List.set_cons_zero, List.set_cons_succ]
        refine wpAnyM_done (by kernel_rfl) ?_ _
        go_wp2_with fail
        go_ret
        rw [HC.out]
        exact ⟨rfl, HY.out.drop (fun p hp => List.mem_cons_of_mem _ (HSUB.out _ hp))⟩
    · skip
      have hbk := (Below.refl _ Wd).alloc (Nat.le_refl _) (.cells #[.int .i64 0, .slice none 0 0] 92)
      have hok := oc_lit (W := Wd) Wd.heap.size (Nat.le_refl _) [(0, none, 0, 0)] 1 rfl (by omega) #[.int .i64 0, .slice none 0 0] rfl
      have HNK := Aside0.mk (show NF < Wd.heap.size by (obtain ⟨q, e, _, h⟩ := HFWd.out.head (by omega)); injection e with e; injection e with e; omega)
      have HFwk := Aside0.mk (HFWd.out.below hbk)
      have HBwk := Aside0.mk (below_then HBWd.out (HSZ.out _ HBWd.out) hbk)
      have HCwk := Aside0.mk (HCWd.out.below hbk)
      have HKwk := Aside0.mk hok
      clear hbk hok
      go_wp2_with fail
      refine ⟨HSX.out _ HBwk.out, ?_⟩
      obtain ⟨wk, hwk⟩ : ∃ X, Wd.alloc (.cells #[.int .i64 0, .slice none 0 0] 92) = X := ⟨_, rfl⟩
      rw [hwk] at HFwk HBwk HKwk HCwk ⊢
      clear hwk
      try simp only [Act.put, List.setIfInBounds_toArray, List.set_cons_zero, List.set_cons_succ]
      refine wpAnyM_one (i := 5) (by kernel_rfl) (by simp only [List.getElem?_toArray, List.getElem?_cons_succ, List.getElem?_cons_zero]; rfl) ?_
      go_wp2_with (go_at_call 46; refine (pops_any A n c hs wk HCwk.out HX.out.2.1).mono ?_; rintro e w5 ⟨A9, c9, rfl, hO, hB⟩; (have HOw5 := Aside0.mk hO.rc); (have HFw5 := Aside0.mk (HFwk.out.below hB)); (have HBw5 := Aside0.mk (below_then HBwk.out (HSZ.out _ HBwk.out) hB)); (have HKw5 := Aside0.mk (HKwk.out.below hB)); clear hO hB)
      refine ⟨HSX.out _ HBw5.out, ?_⟩
      try simp only [Act.put, List.setIfInBounds_toArray, List.set_cons_zero, List.set_cons_succ]
      refine wpAnyM_one (i := 6) (by kernel_rfl) (by simp only [List.getElem?_toArray, List.getElem?_cons_succ, List.getElem?_cons_zero]; rfl) ?_
      refine wpl_two (w0 := W3) NF (by rfl) (.tmp 51) (.tmp 53) 93 92 zW 32 (by rfl) Try.underlying93 infoO rfl (by omega) (by omega) (some ⟨NF, 0, none⟩) 2 2 A9 n c9 [(aw, A8, 256, c8), (at_, A7, 256, c7)] hs (by rfl) (by rfl) HFw5.out HOw5.out (HSZ.out _ HBw5.out) (by omega) HBw5.out ?_
      intro Aw6 cw6 w6 hO hB hG
      have HFw6 := Aside0.mk hO.out
      have HBw6 := Aside0.mk hB.out
      have HKw6 := Aside0.mk (HKw5.out.grw hG.out (fun i j e1 e2 => by injection e1 with e1; injection e1 with e1; injection e2 with e2; injection e2 with e2; have := HNK.out; omega))
      clear hO hB hG
      refine wpl_nil ⟨rfl, fun _ => HSX.out _ HBw6.out, ?_⟩
      try simp only [Act.put, List.setIfInBounds_toArray, List.set_cons_zero, List.set_cons_succ]
      refine wpAnyM_one (i := 9) (by kernel_rfl) (by simp only [List.getElem?_toArray, List.getElem?_cons_succ, List.getElem?_cons_zero]; rfl) ?_
      refine wpl_two (w0 := W3) NF (by rfl) (.tmp 54) (.tmp 56) 93 92 zW 32 (by rfl) Try.underlying93 infoO rfl (by omega) (by omega) Aw6 (2 + n) cw6 (some ⟨Wd.heap.size, 0, none⟩) 1 1 ([(aw, A8, 256, c8), (at_, A7, 256, c7)] ++ hs) [(0, none, 0, 0)] (by rfl) (by rfl) HFw6.out HKw6.out.rc (HSZ.out _ HBw6.out) (by omega) HBw6.out ?_
      intro Awz cwz wz hO hB hG
      have HFwz := Aside0.mk hO.out
      have HBwz := Aside0.mk hB.out
      clear hO hB hG
      refine wpl_nil ⟨rfl, fun _ => HSX.out _ HBwz.out, ?_⟩
      try simp only [Act.put, List.setIfInBounds_toArray, List.set_cons_zero, List.set_cons_succ]
      obtain ⟨q, rfl, hq1, hq2⟩ := HFwz.out.head (by omega)
      obtain ⟨o, ho⟩ := H3.out.1.holdx (by rw [H3.out.2.2]; exact HBwz.out) q (by rw [H3.out.2.2]; exact hq1) hq2
      have HG := Aside0.mk (And.intro ho (H3.out.2.1.below (by rw [H3.out.2.2]; exact HBwz.out)))
      clear ho hq1 hq2
      refine wpAnyM_one (i := 10) (by kernel_rfl) (by simp only [List.getElem?_toArray, List.getElem?_cons_succ, List.getElem?_cons_zero]; rfl) ?_
      go_wp2_with (go_at_call 45; refine (all_h HG.out.1 (List.mem_cons_of_mem _ (HSUB.out _ HX.out.1)) pg (some ⟨q, 0, none⟩) (2 + n + 1) cwz _ _ rl op HFwz.out.rc (fun _ a e => by injection e with e; rw [← e]; exact .inr ⟨_, List.mem_cons_self⟩) (HG.out.2.up (fun p hp => List.mem_cons_of_mem _ hp)) (by have := HX.out.2.1; simp; omega) HX.out.2.2.1 HAL.out.1 (by have := HX.out.2.2.2.2; omega) (by have := BD.out; omega) HAL.out.2).mono ?_; rintro e wy ⟨rfl, hH⟩; (have HY := Aside0.mk hH); clear hH)
      try simp only [Act.put, List.setIfInBounds_toArray, List.set_cons_zero, List.set_cons_succ]
      refine wpAnyM_take0 (i := 11) (v := ?_) (by simp only [List.getElem?_toArray, List.getElem?_cons_succ, List.getElem?_cons_zero]; rfl) (by kernel_rfl) (by kernel_rfl) (by kernel_rfl) (by rfl) (by exact fun _ _ _ h => h) (Or.inl ⟨by rfl, ?_⟩) ?_
      rotate_left
      · (intro w' _; go_simp; try with_reducible rfl)
      try simp only [Act.put, List.setIfInBounds_toArray, List.set_cons_zero, List.set_cons_succ]
      refine wpAnyM_done (by kernel_rfl) ?_ _
      go_wp2_with fail
      go_ret
      rw [HC.out]
      exact ⟨rfl, HY.out.drop (fun p hp => List.mem_cons_of_mem _ (HSUB.out _ hp))⟩
end Go.Proofs.Ythhalmjapiempaa
