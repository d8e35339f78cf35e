/- The walks of rising, and of a leaf's items. -/
import Derived.Test.YtbjfklgmbeaaoaaGreatK7
set_option linter.unusedVariables false
set_option linter.unusedSimpArgs false
namespace Go.Proofs.YtbjfklgmbeaaoaaGreat
open Go.RowKit

def cmpI (l : List (List UInt8)) (i : Nat) : Int := Lib.compareBytes (l.getD i []) (l.getD (i + 1) [])
theorem risB_iff (l : List (List UInt8)) : risB l = true ↔ ∀ i, i + 1 < l.length → cmpI l i < 0 := by
  unfold risB
  rw [List.all_eq_true]
  constructor
  · intro h i hi
    exact of_decide_eq_true (h i (List.mem_range.2 (by omega)))
  · intro h i hi
    have := List.mem_range.1 hi
    exact decide_eq_true (h i (by omega))
theorem getD_of {α : Type} {l : List α} {i : Nat} {x d : α} (h : l[i]? = some x) : l.getD i d = x := by rw [List.getD_eq_getElem?_getD, h]; rfl
set_option maxHeartbeats 1600000 in
set_option maxRecDepth 100000 in
theorem rising_any (A : Option Addr) (n c : Nat) (hs : List SH) (l : List (List UInt8)) (w : World) (h : Rc w 1 A n c (shl hs)) (hl : hs.length = n) (hi : Shs w hs l) :
    Calls Tryz.prog 65 #[.slice A n c] w fun e w' => e = .returned (.bool (risB l)) ∧ Below w.heap.size w w' := by
  have hlim := h.lim
  have HR := Aside0.mk (And.intro h (And.intro hl hi))
  have HLL := Aside0.mk (show l.length = n by rw [← hl, hi.len])
  clear h hl hi
  go_enter Tryz.func65, Tryz.ntmps65
  go_wp2_with fail
  go_loopg [3] n (fun gk v3 wr => ∃ (j : Nat), Aside (gk + j = n) ∧ v3 = .int .i64 ((j : Int) + 1) ∧ Aside0 (Below w.heap.size w wr ∧ ∀ i, i < j → i + 1 < n → cmpI l i < 0))
  case atStart => exact ⟨0, rfl, by go_num, ⟨Below.refl _ _, fun i hi => absurd hi (by omega)⟩⟩
  case round =>
    obtain ⟨j, hk, rfl, hI⟩ := hrel
    have hjm : j ≤ n := by have := hk.out; omega
    rcases Nat.lt_or_ge (j + 1) n with hlt | hge
    · have d1 : decide ((j : Int) + 1 < (n : Int)) = true := decide_eq_true (by omega)
      have d2 : (j : Int) + 1 < (n : Int) := by omega
      have d3 : (j : Int) < (n : Int) := by omega
      have d4 : j < n := by omega
      have d0 : (0 : Int) ≤ (j : Int) + 1 := by omega
      have dw : IntKind.i64.wrap (j : Int) = (j : Int) := IntWalk.i64_in _ (by omega)
      have HLT := Aside0.mk hlt
      have hB1 : Below w.heap.size w wr.drew := below_drew hI.out.1
      obtain ⟨ad, p, rfl, hp, c0⟩ := (HR.out.1.below hB1).sh HR.out.2.1 j (by omega)
      obtain ⟨ad', p', e', hp', c1⟩ := (HR.out.1.below hB1).sh HR.out.2.1 (j + 1) hlt
      injection e' with e'
      subst e'
      have ea : ad.add (j + 1) = ⟨ad.block, ad.off + (j + 1), none⟩ := by unfold Addr.add; rw [if_neg (by omega)]
      rw [ea] at c1
      clear ea
      obtain ⟨q, hq, bq⟩ := (HR.out.2.2.below hB1).each j p hp
      obtain ⟨q', hq', bq'⟩ := (HR.out.2.2.below hB1).each (j + 1) p' hp'
      obtain ⟨pa, pn, pc⟩ := p
      obtain ⟨pa', pn', pc'⟩ := p'
      unfold shv at c0 c1
      unfold Bsh at bq bq'
      simp only at c0 c1 bq bq'
      have HC := Aside0.mk (show cmpI l j = Lib.compareBytes q q' by unfold cmpI; rw [getD_of hq, getD_of hq'])
      obtain ⟨cm, hcm⟩ : ∃ x, Lib.compareBytes q q' = x := ⟨_, rfl⟩
      rw [hcm] at HC
      have HCM := Aside0.mk hcm
      go_upto_region 4 with fail
      have HS := Aside0.mk (And.intro c0 c1)
      obtain ⟨u0, hu0⟩ : ∃ X, wr.drew = X := ⟨_, rfl⟩
      rw [hu0] at HS bq bq' hB1
      have HQ := Aside0.mk (And.intro bq (And.intro bq' hB1))
      clear hq hq' bq bq' hp hp' c0 c1 hcm hB1 hlt
      by_cases qc : 0 ≤ cm
      · have d5 : decide (0 ≤ cm) = true := decide_eq_true qc
        have HB := Aside0.mk (show risB l = false by
          cases hr : risB l with
          | false => rfl
          | true =>
            have h1 := (risB_iff l).1 hr j (by rw [HLL.out]; exact HLT.out)
            rw [HC.out] at h1
            omega)
        clear qc
        refine wp_region_M (fun j => decide (j < 11)) (fun w' => w'.cell? (ad.add j) = some (.slice pa pn pc) ∧ w'.cell? ⟨ad.block, ad.off + (j + 1), none⟩ = some (.slice pa' pn' pc')) (by kernel_rfl) ?_
        rw [hu0]
        clear hu0
        refine wpAnyM_take (i := 0) (v := ?_) (by simp only [List.getElem?_toArray, List.getElem?_cons_succ, List.getElem?_cons_zero]; rfl) (by kernel_rfl) (by kernel_rfl) (by kernel_rfl) (by kernel_rfl) (by exact fun _ _ _ h => h) (Or.inl ⟨by rfl, ?_⟩) HS.out ?_
        rotate_left
        · (intro w' hSw; (try dsimp only at hSw); go_simp; try with_reducible rfl)
        try simp only [Act.put, List.setIfInBounds_toArray, List.set_cons_zero, List.set_cons_succ]
        refine wpAnyM_take (i := 1) (v := ?_) (by simp only [List.getElem?_toArray, List.getElem?_cons_succ, List.getElem?_cons_zero]; rfl) (by kernel_rfl) (by kernel_rfl) (by kernel_rfl) (by kernel_rfl) (by exact fun _ _ _ h => h) (Or.inl ⟨by rfl, ?_⟩) HS.out ?_
        rotate_left
        · (intro w' hSw; (try dsimp only at hSw); go_simp; try with_reducible rfl)
        try simp only [Act.put, List.setIfInBounds_toArray, List.set_cons_zero, List.set_cons_succ]
        refine wpAnyM_take (i := 2) (v := ?_) (by simp only [List.getElem?_toArray, List.getElem?_cons_succ, List.getElem?_cons_zero]; rfl) (by kernel_rfl) (by kernel_rfl) (by kernel_rfl) (by kernel_rfl) (by exact fun _ _ _ h => h) (Or.inl ⟨by rfl, ?_⟩) HS.out ?_
        rotate_left
        · (intro w' hSw; (try dsimp only at hSw); go_simp; try with_reducible rfl)
        try simp only [Act.put, List.setIfInBounds_toArray, List.set_cons_zero, List.set_cons_succ]
        refine wpAnyM_take (i := 3) (v := ?_) (by simp only [List.getElem?_toArray, List.getElem?_cons_succ, List.getElem?_cons_zero]; rfl) (by kernel_rfl) (by kernel_rfl) (by kernel_rfl) (by kernel_rfl) (by exact fun _ _ _ h => h) (Or.inl ⟨by rfl, ?_⟩) HS.out ?_
        rotate_left
        · (intro w' hSw; (try dsimp only at hSw); go_simp; try with_reducible rfl)
        try simp only [Act.put, List.setIfInBounds_toArray, List.set_cons_zero, List.set_cons_succ]
        refine wpAnyM_take (i := 4) (v := ?_) (by simp only [List.getElem?_toArray, List.getElem?_cons_succ, List.getElem?_cons_zero]; rfl) (by kernel_rfl) (by kernel_rfl) (by kernel_rfl) (by kernel_rfl) (by exact fun _ _ _ h => h) (Or.inl ⟨by rfl, ?_⟩) HS.out ?_
        rotate_left
        · (intro w' hSw; (try dsimp only at hSw); go_simp; try with_reducible rfl)
        try simp only [Act.put, List.setIfInBounds_toArray, List.set_cons_zero, List.set_cons_succ]
        refine wpAnyM_take (i := 5) (v := ?_) (by simp only [List.getElem?_toArray, List.getElem?_cons_succ, List.getElem?_cons_zero]; rfl) (by kernel_rfl) (by kernel_rfl) (by kernel_rfl) (by kernel_rfl) (by exact fun _ _ _ h => h) (Or.inl ⟨by rfl, ?_⟩) HS.out ?_
        rotate_left
        · (intro w' hSw; (try dsimp only at hSw); go_simp; try with_reducible rfl)
        try simp only [Act.put, List.setIfInBounds_toArray, List.set_cons_zero, List.set_cons_succ]
        refine wpAnyM_take (i := 6) (v := ?_) (by simp only [List.getElem?_toArray, List.getElem?_cons_succ, List.getElem?_cons_zero]; rfl) (by kernel_rfl) (by kernel_rfl) (by kernel_rfl) (by kernel_rfl) (by exact fun _ _ _ h => h) (Or.inl ⟨by rfl, ?_⟩) HS.out ?_
        rotate_left
        · (intro w' hSw; (try dsimp only at hSw); go_simp; try with_reducible rfl)
        try simp only [Act.put, List.setIfInBounds_toArray, List.set_cons_zero, List.set_cons_succ]
        refine wpAnyM_take (i := 7) (v := ?_) (by simp only [List.getElem?_toArray, List.getElem?_cons_succ, List.getElem?_cons_zero]; rfl) (by kernel_rfl) (by kernel_rfl) (by kernel_rfl) (by kernel_rfl) (by exact fun _ _ _ h => h) (Or.inl ⟨by rfl, ?_⟩) HS.out ?_
        rotate_left
        · (intro w' hSw; (try dsimp only at hSw); go_simp; try with_reducible rfl)
        try simp only [Act.put, List.setIfInBounds_toArray, List.set_cons_zero, List.set_cons_succ]
        refine wpAnyM_take (i := 8) (v := ?_) (by simp only [List.getElem?_toArray, List.getElem?_cons_succ, List.getElem?_cons_zero]; rfl) (by kernel_rfl) (by kernel_rfl) (by kernel_rfl) (by kernel_rfl) (by exact fun _ _ _ h => h) (Or.inl ⟨by rfl, ?_⟩) HS.out ?_
        rotate_left
        · (intro w' hSw; (try dsimp only at hSw); go_simp; try with_reducible rfl)
        try simp only [Act.put, List.setIfInBounds_toArray, List.set_cons_zero, List.set_cons_succ]
        refine wpAnyM_one (i := 9) (by kernel_rfl) (by simp only [List.getElem?_toArray, List.getElem?_cons_succ, List.getElem?_cons_zero]; rfl) ?_
        go_wp2_with (go_at_call 84; refine (icompare_any pa pn pc q pa' pn' pc' q' u0 HQ.out.1 HQ.out.2.1).mono ?_; rintro e w1 ⟨rfl, rfl⟩; rw [HCM.out])
        refine ⟨HS.out, ?_⟩
        try simp only [Act.put, List.setIfInBounds_toArray, List.set_cons_zero, List.set_cons_succ]
        refine wpAnyM_take (i := 10) (v := ?_) (by simp only [List.getElem?_toArray, List.getElem?_cons_succ, List.getElem?_cons_zero]; rfl) (by kernel_rfl) (by kernel_rfl) (by kernel_rfl) (by kernel_rfl) (by exact fun _ _ _ h => h) (Or.inl ⟨by rfl, ?_⟩) HS.out ?_
        rotate_left
        · (intro w' hSw; (try dsimp only at hSw); go_simp; try with_reducible rfl)
        try simp only [Act.put, List.setIfInBounds_toArray, List.set_cons_zero, List.set_cons_succ]
        refine wpAnyM_done (by kernel_rfl) ?_ _
        go_wp2_with fail
        go_ret
        rw [HB.out]
        exact ⟨rfl, HQ.out.2.2⟩
      · have d5 : decide (0 ≤ cm) = false := decide_eq_false qc
        have HN := Aside0.mk (show cm < 0 by omega)
        clear qc
        refine wp_region_M (fun j => decide (j < 11)) (fun w' => w'.cell? (ad.add j) = some (.slice pa pn pc) ∧ w'.cell? ⟨ad.block, ad.off + (j + 1), none⟩ = some (.slice pa' pn' pc')) (by kernel_rfl) ?_
        rw [hu0]
        clear hu0
        refine wpAnyM_take (i := 0) (v := ?_) (by simp only [List.getElem?_toArray, List.getElem?_cons_succ, List.getElem?_cons_zero]; rfl) (by kernel_rfl) (by kernel_rfl) (by kernel_rfl) (by kernel_rfl) (by exact fun _ _ _ h => h) (Or.inl ⟨by rfl, ?_⟩) HS.out ?_
        rotate_left
        · (intro w' hSw; (try dsimp only at hSw); go_simp; try with_reducible rfl)
        try simp only [Act.put, List.setIfInBounds_toArray, List.set_cons_zero, List.set_cons_succ]
        refine wpAnyM_take (i := 1) (v := ?_) (by simp only [List.getElem?_toArray, List.getElem?_cons_succ, List.getElem?_cons_zero]; rfl) (by kernel_rfl) (by kernel_rfl) (by kernel_rfl) (by kernel_rfl) (by exact fun _ _ _ h => h) (Or.inl ⟨by rfl, ?_⟩) HS.out ?_
        rotate_left
        · (intro w' hSw; (try dsimp only at hSw); go_simp; try with_reducible rfl)
        try simp only [Act.put, List.setIfInBounds_toArray, List.set_cons_zero, List.set_cons_succ]
        refine wpAnyM_take (i := 2) (v := ?_) (by simp only [List.getElem?_toArray, List.getElem?_cons_succ, List.getElem?_cons_zero]; rfl) (by kernel_rfl) (by kernel_rfl) (by kernel_rfl) (by kernel_rfl) (by exact fun _ _ _ h => h) (Or.inl ⟨by rfl, ?_⟩) HS.out ?_
        rotate_left
        · (intro w' hSw; (try dsimp only at hSw); go_simp; try with_reducible rfl)
        try simp only [Act.put, List.setIfInBounds_toArray, List.set_cons_zero, List.set_cons_succ]
        refine wpAnyM_take (i := 3) (v := ?_) (by simp only [List.getElem?_toArray, List.getElem?_cons_succ, List.getElem?_cons_zero]; rfl) (by kernel_rfl) (by kernel_rfl) (by kernel_rfl) (by kernel_rfl) (by exact fun _ _ _ h => h) (Or.inl ⟨by rfl, ?_⟩) HS.out ?_
        rotate_left
        · (intro w' hSw; (try dsimp only at hSw); go_simp; try with_reducible rfl)
        try simp only [Act.put, List.setIfInBounds_toArray, List.set_cons_zero, List.set_cons_succ]
        refine wpAnyM_take (i := 4) (v := ?_) (by simp only [List.getElem?_toArray, List.getElem?_cons_succ, List.getElem?_cons_zero]; rfl) (by kernel_rfl) (by kernel_rfl) (by kernel_rfl) (by kernel_rfl) (by exact fun _ _ _ h => h) (Or.inl ⟨by rfl, ?_⟩) HS.out ?_
        rotate_left
        · (intro w' hSw; (try dsimp only at hSw); go_simp; try with_reducible rfl)
        try simp only [Act.put, List.setIfInBounds_toArray, List.set_cons_zero, List.set_cons_succ]
        refine wpAnyM_take (i := 5) (v := ?_) (by simp only [List.getElem?_toArray, List.getElem?_cons_succ, List.getElem?_cons_zero]; rfl) (by kernel_rfl) (by kernel_rfl) (by kernel_rfl) (by kernel_rfl) (by exact fun _ _ _ h => h) (Or.inl ⟨by rfl, ?_⟩) HS.out ?_
        rotate_left
        · (intro w' hSw; (try dsimp only at hSw); go_simp; try with_reducible rfl)
        try simp only [Act.put, List.setIfInBounds_toArray, List.set_cons_zero, List.set_cons_succ]
        refine wpAnyM_take (i := 6) (v := ?_) (by simp only [List.getElem?_toArray, List.getElem?_cons_succ, List.getElem?_cons_zero]; rfl) (by kernel_rfl) (by kernel_rfl) (by kernel_rfl) (by kernel_rfl) (by exact fun _ _ _ h => h) (Or.inl ⟨by rfl, ?_⟩) HS.out ?_
        rotate_left
        · (intro w' hSw; (try dsimp only at hSw); go_simp; try with_reducible rfl)
        try simp only [Act.put, List.setIfInBounds_toArray, List.set_cons_zero, List.set_cons_succ]
        refine wpAnyM_take (i := 7) (v := ?_) (by simp only [List.getElem?_toArray, List.getElem?_cons_succ, List.getElem?_cons_zero]; rfl) (by kernel_rfl) (by kernel_rfl) (by kernel_rfl) (by kernel_rfl) (by exact fun _ _ _ h => h) (Or.inl ⟨by rfl, ?_⟩) HS.out ?_
        rotate_left
        · (intro w' hSw; (try dsimp only at hSw); go_simp; try with_reducible rfl)
        try simp only [Act.put, List.setIfInBounds_toArray, List.set_cons_zero, List.set_cons_succ]
        refine wpAnyM_take (i := 8) (v := ?_) (by simp only [List.getElem?_toArray, List.getElem?_cons_succ, List.getElem?_cons_zero]; rfl) (by kernel_rfl) (by kernel_rfl) (by kernel_rfl) (by kernel_rfl) (by exact fun _ _ _ h => h) (Or.inl ⟨by rfl, ?_⟩) HS.out ?_
        rotate_left
        · (intro w' hSw; (try dsimp only at hSw); go_simp; try with_reducible rfl)
        try simp only [Act.put, List.setIfInBounds_toArray, List.set_cons_zero, List.set_cons_succ]
        refine wpAnyM_one (i := 9) (by kernel_rfl) (by simp only [List.getElem?_toArray, List.getElem?_cons_succ, List.getElem?_cons_zero]; rfl) ?_
        go_wp2_with (go_at_call 84; refine (icompare_any pa pn pc q pa' pn' pc' q' u0 HQ.out.1 HQ.out.2.1).mono ?_; rintro e w1 ⟨rfl, rfl⟩; rw [HCM.out])
        refine ⟨HS.out, ?_⟩
        try simp only [Act.put, List.setIfInBounds_toArray, List.set_cons_zero, List.set_cons_succ]
        refine wpAnyM_take (i := 10) (v := ?_) (by simp only [List.getElem?_toArray, List.getElem?_cons_succ, List.getElem?_cons_zero]; rfl) (by kernel_rfl) (by kernel_rfl) (by kernel_rfl) (by kernel_rfl) (by exact fun _ _ _ h => h) (Or.inl ⟨by rfl, ?_⟩) HS.out ?_
        rotate_left
        · (intro w' hSw; (try dsimp only at hSw); go_simp; try with_reducible rfl)
        try simp only [Act.put, List.setIfInBounds_toArray, List.set_cons_zero, List.set_cons_succ]
        refine wpAnyM_done (by kernel_rfl) ?_ _
        go_wp2_with fail
        go_roundg (n - (j + 1))
        case measure => have := hk.out; omega
        case rel =>
          refine ⟨j + 1, (by show n - (j + 1) + (j + 1) = n; have := HLT.out; omega), by go_num, ⟨HQ.out.2.2, fun i hi hn => ?_⟩⟩
          rcases Nat.lt_or_ge i j with q1 | q1
          · exact hI.out.2 i q1 hn
          · obtain rfl : i = j := by omega
            rw [HC.out]
            exact HN.out
    · have d1 : decide ((j : Int) + 1 < (n : Int)) = false := decide_eq_false (by omega)
      have HB := Aside0.mk (show risB l = true from (risB_iff l).2 (fun i hi => hI.out.2 i (by rw [HLL.out] at hi; omega) (by rw [HLL.out] at hi; exact hi)))
      go_wp2_with fail
      go_ret
      rw [HB.out]
      exact ⟨rfl, hI.out.1⟩
set_option maxHeartbeats 1600000 in
set_option maxRecDepth 100000 in
theorem leaf1_any (pk : Option Addr) (pkn pkc : Nat) (pv : Option Addr) (pvn pvc : Nat) (ps pr g : Int) (G : Nat) (w : World) (hG : w.cell? ⟨G, 0, none⟩ = some (.int .i64 g)) (hk : pkn ≤ 140737488355328) (hv : pvn ≤ 140737488355328) :
    Calls Tryz.prog 82 #[.agg #[.slice pk pkn pkc, .slice pv pvn pvc, .int .i64 ps, .int .i64 pr], .pointer (some ⟨G, 0, none⟩)] w fun e w' => e = .returned (.bool (!rightB g pkn pvn ps pr)) ∧ Below w.heap.size w w' := by
  have hB := (Below.refl _ w).alloc (Nat.le_refl _) (.cells #[.slice pk pkn pkc, .slice pv pvn pvc, .int .i64 ps, .int .i64 pr] 44)
  have hr := heap_alloc_new w (.cells #[.slice pk pkn pkc, .slice pv pvn pvc, .int .i64 ps, .int .i64 pr] 44)
  have hG1 := cell_below hB hG
  obtain ⟨w0, hw0⟩ : ∃ X, w.alloc (.cells #[.slice pk pkn pkc, .slice pv pvn pvc, .int .i64 ps, .int .i64 pr] 44) = X := ⟨_, rfl⟩
  obtain ⟨N, hN⟩ : ∃ X, w.heap.size = X := ⟨_, rfl⟩
  rw [hw0, hN] at hr
  rw [hw0] at hB hG1
  have HB := Aside0.mk hB
  have HN := Aside0.mk (And.intro hw0 hN)
  obtain ⟨y0, y1, y2, y3⟩ := item_cells2 hr
  clear hG hB hr hw0 hN
  go_enter Tryz.func82, Tryz.ntmps82
  go_upto_region 1 with fail
  rw [HN.out.1, HN.out.2]
  cases hb : rightB g pkn pvn ps pr with
  | true =>
    have HR := Aside0.mk hb
    clear hb
    go_wp2_with (go_at_call 83; refine (right_any g pk pkn pkc pv pvn pvc ps pr w0 hk hv).mono ?_; rintro e w1 ⟨rfl, hB⟩; rw [HR.out]; (have H1 := Aside0.mk (below_then HB.out HB.out.size hB)); clear hB)
    go_ret
    refine ⟨?_, H1.out⟩
    show Ending.returned (.bool false) = .returned (.bool (!rightB g pkn pvn ps pr))
    rw [HR.out]
    rfl
  | false =>
    have HR := Aside0.mk hb
    clear hb
    go_wp2_with (go_at_call 83; refine (right_any g pk pkn pkc pv pvn pvc ps pr w0 hk hv).mono ?_; rintro e w1 ⟨rfl, hB⟩; rw [HR.out]; (have H1 := Aside0.mk (below_then HB.out HB.out.size hB)); clear hB)
    go_ret
    refine ⟨?_, H1.out⟩
    show Ending.returned (.bool true) = .returned (.bool (!rightB g pkn pvn ps pr))
    rw [HR.out]
    rfl
def wrongB (g : Int) (q : IV) : Bool := !rightB g q.k.length q.v.length q.s q.r
theorem wrong_len {g s r : Int} {qk qv : List UInt8} {b : Bool} {nk nv : Nat} (h : wrongB g ⟨qk, qv, s, r⟩ = b) (h1 : qk.length = nk) (h2 : qv.length = nv) : (!rightB g nk nv s r) = b := by
  subst h1 h2
  exact h


set_option maxHeartbeats 1600000 in
set_option maxRecDepth 100000 in
theorem wrongi_any (A : Option Addr) (n c : Nat) (hs : List IH) (l : List IV) (g : Int) (G : Nat) (w : World) (h : Rc w 4 A n c (ihv hs)) (hl : hs.length = n) (hi : Its w hs l) (hG : w.cell? ⟨G, 0, none⟩ = some (.int .i64 g)) :
    Calls Tryz.prog 68 #[.slice A n c, .func (.func 82) #[] #[.pointer (some ⟨G, 0, none⟩)]] w fun e w' => (∃ i : Int, e = .returned (.int .i64 i) ∧ decide (0 ≤ i) = l.any (wrongB g)) ∧ Below w.heap.size w w' := by
  have hlim := h.lim
  have HR := Aside0.mk (And.intro h (And.intro hl hi))
  have HG := Aside0.mk hG
  clear hG
  clear h hl hi
  go_enter Tryz.func68, Tryz.ntmps68
  go_wp2_with fail
  go_loopg [8] n (fun gk v8 wr => ∃ (j : Nat), Aside (gk + j = n) ∧ v8 = .int .i64 (j : Int) ∧ Aside0 (Below w.heap.size w wr ∧ (l.take j).any (wrongB g) = false))
  case atStart => exact ⟨0, rfl, rfl, ⟨Below.refl _ _, by simp⟩⟩
  case round =>
    obtain ⟨j, hk, rfl, hI⟩ := hrel
    have hjm : j ≤ n := by have := hk.out; omega
    rcases Nat.lt_or_ge j n with hlt | hge
    · have d1 : decide ((j : Int) < (n : Int)) = true := decide_eq_true (by omega)
      have hjn : (j : Int) < (n : Int) := by omega
      obtain ⟨ad, p, rfl, hp, c0, c1, c2, c3⟩ := (HR.out.1.below hI.out.1).item HR.out.2.1 j hlt
      obtain ⟨q, hq, bk, bv, es, er⟩ := (HR.out.2.2.below hI.out.1).each j p hp
      obtain ⟨⟨pk, pkn, pkc⟩, ⟨pv, pvn, pvc⟩, ps, pr⟩ := p
      obtain ⟨qk, qv, qs, qr⟩ := q
      unfold shv at c0 c1
      unfold Bsh at bk bv
      simp only at c0 c1 c2 c3 bk bv es er
      subst es er
      have HQ := Aside0.mk (And.intro hq (And.intro bk bv))
      clear hq bk bv hp
      obtain ⟨b, hbv⟩ : ∃ b, (wrongB g) (⟨qk, qv, ps, pr⟩ : IV) = b := ⟨_, rfl⟩
      have HB := Aside0.mk hbv
      clear hbv
      cases b with
      | true =>
        go_wp2_with (go_at_call 82; refine (leaf1_any pk pkn pkc pv pvn pvc ps pr g G wr (by have hb1 := hI.out.1; exact (hb1.cell (World.block_lt_of_cell? w _ HG.out)).trans HG.out) HQ.out.2.1.lim HQ.out.2.2.lim).mono ?_; rintro e w1 ⟨rfl, hB⟩; rw [wrong_len HB.out HQ.out.2.1.len HQ.out.2.2.len]; (have H1 := Aside0.mk (below_then hI.out.1 hI.out.1.size hB)); clear hB)
        go_ret
        refine ⟨⟨_, rfl, ?_⟩, H1.out⟩
        have hm : l.any (wrongB g) = true := List.any_eq_true.2 ⟨_, List.mem_of_getElem? HQ.out.1, HB.out⟩
        first
          | (rw [hm]; exact decide_eq_true (by omega))
          | (rw [List.any_eq_true] at hm; exact ⟨fun _ => hm, fun _ => by omega⟩)
          | (refine iff_of_true (by omega) ?_; simpa using hm)
      | false =>
        go_wp2_with (go_at_call 82; refine (leaf1_any pk pkn pkc pv pvn pvc ps pr g G wr (by have hb1 := hI.out.1; exact (hb1.cell (World.block_lt_of_cell? w _ HG.out)).trans HG.out) HQ.out.2.1.lim HQ.out.2.2.lim).mono ?_; rintro e w1 ⟨rfl, hB⟩; rw [wrong_len HB.out HQ.out.2.1.len HQ.out.2.2.len]; (have H1 := Aside0.mk (below_then hI.out.1 hI.out.1.size hB)); clear hB)
        go_roundg (n - (j + 1))
        case measure => have := hk.out; omega
        case rel =>
          refine ⟨j + 1, (by show n - (j + 1) + (j + 1) = n; omega), by go_num, ⟨H1.out, ?_⟩⟩
          rw [List.take_add_one, HQ.out.1, Option.toList_some, List.any_append, hI.out.2, Bool.false_or, List.any_cons, List.any_nil, Bool.or_false]
          exact HB.out
    · obtain rfl : n = j := by omega
      have d1 : decide ((n : Int) < (n : Int)) = false := by simp
      have h9 := hI.out.2
      rw [List.take_of_length_le (by rw [← HR.out.2.2.len, HR.out.2.1]; exact Nat.le_refl _)] at h9
      have H9 := Aside0.mk h9
      clear h9
      go_wp2_with fail
      go_ret
      refine ⟨⟨_, rfl, ?_⟩, hI.out.1⟩
      first
        | (rw [H9.out]; decide)
        | (refine iff_of_false (by omega) ?_; intro q; have h8 := H9.out; rw [Bool.eq_false_iff] at h8; exact h8 (by simpa using q))
set_option maxHeartbeats 1600000 in
set_option maxRecDepth 100000 in
theorem wrongc_any (A : Option Addr) (n c : Nat) (hs : List IH) (l : List IV) (g : Int) (G : Nat) (w : World) (h : Rc w 4 A n c (ihv hs)) (hl : hs.length = n) (hi : Its w hs l) (hG : w.cell? ⟨G, 0, none⟩ = some (.int .i64 g)) :
    Calls Tryz.prog 32 #[.slice A n c, .func (.func 82) #[] #[.pointer (some ⟨G, 0, none⟩)]] w fun e w' => e = .returned (.bool (l.any (wrongB g))) ∧ Below w.heap.size w w' := by
  have HR := Aside0.mk (And.intro h (And.intro hl hi))
  have HG := Aside0.mk hG
  clear hG
  clear h hl hi
  go_enter Tryz.func32, Tryz.ntmps32
  go_wp2_with (go_at_call 68; refine (wrongi_any A n c hs l g G w HR.out.1 HR.out.2.1 HR.out.2.2 HG.out).mono ?_; rintro e w1 ⟨⟨i, rfl, hi⟩, hB⟩; (have HI := Aside0.mk (And.intro hi hB)); clear hi hB)
  go_ret
  refine ⟨?_, HI.out.2⟩
  show Ending.returned (.bool (decide (0 ≤ i))) = _
  rw [HI.out.1]

end Go.Proofs.YtbjfklgmbeaaoaaGreat
