/- A value of which one bit is turned is none: plain. -/
import Derived.Test.YtbjfklgmbeaaoaaVC
set_option linter.unusedVariables false
set_option linter.unusedSimpArgs false
namespace Go.Proofs.Ytbjfklgmbeaaoaa
open Go.RowKit

theorem flip_page (im : List UInt8) (B p : Nat) (h : 256 * p + 256 ≤ im.length) : ((flipB im B).drop (256 * p)).take 256 = if B / 2048 = p then flipB ((im.drop (256 * p)).take 256) (B % 2048) else (im.drop (256 * p)).take 256 := by
  unfold flipB
  rw [List.drop_set]
  by_cases h1 : B / 8 < 256 * p
  · rw [if_pos h1, if_neg (by omega)]
  · rw [if_neg h1, List.take_set]
    by_cases h2 : B / 2048 = p
    · have e1 : B % 2048 / 8 = B / 8 - 256 * p := by omega
      have e2 : B % 2048 % 8 = B % 8 := by omega
      have e3 : ((im.drop (256 * p)).take 256).getD (B / 8 - 256 * p) 0 = im.getD (B / 8) 0 := by
        rw [List.getD_eq_getElem?_getD, List.getD_eq_getElem?_getD, List.getElem?_take, if_pos (by omega), List.getElem?_drop, show 256 * p + (B / 8 - 256 * p) = B / 8 by omega]
      rw [if_pos h2, e1, e2, e3]
    · rw [if_neg h2, List.set_eq_of_length_le (by rw [List.length_take, List.length_drop]; omega)]
theorem flip_drop (im : List UInt8) (B a : Nat) (h : a * 8 ≤ B) : (flipB im B).drop a = flipB (im.drop a) (B - 8 * a) := by
  unfold flipB
  have e1 : (B - 8 * a) / 8 = B / 8 - a := by omega
  have e2 : (B - 8 * a) % 8 = B % 8 := by omega
  have e3 : (im.drop a).getD (B / 8 - a) 0 = im.getD (B / 8) 0 := by
    rw [List.getD_eq_getElem?_getD, List.getD_eq_getElem?_getD, List.getElem?_drop, show a + (B / 8 - a) = B / 8 by omega]
  rw [List.drop_set, if_neg (by omega), e1, e2, e3]
theorem flip_b8 (P : List UInt8) (t : Nat) (h : 16 ≤ t) : b8 (flipB P t) 1 = b8 P 1 := by
  unfold b8 flipB
  have e : (P.set (t / 8) (P.getD (t / 8) 0 ^^^ UInt8.ofNat (2 ^ (t % 8))))[1]? = P[1]? := List.getElem?_set_ne (by omega)
  rw [List.getD_eq_getElem?_getD, e, ← List.getD_eq_getElem?_getD]
theorem same_pages : ∀ (k : Nat) (X Y : List UInt8), X.length = 256 * k → Y.length = 256 * k → (∀ i, i < k → (X.drop (256 * i)).take 256 = (Y.drop (256 * i)).take 256) → X = Y
  | 0, X, Y, hX, hY, _ => by rw [List.length_eq_zero_iff.1 (by omega : X.length = 0), List.length_eq_zero_iff.1 (by omega : Y.length = 0)]
  | k + 1, X, Y, hX, hY, h => by
    have h0 := h 0 (by omega)
    rw [Nat.mul_zero, List.drop_zero, List.drop_zero] at h0
    have ih := same_pages k (X.drop 256) (Y.drop 256) (by rw [List.length_drop]; omega) (by rw [List.length_drop]; omega) (fun i hi => by
      have := h (i + 1) (by omega)
      rw [show 256 * (i + 1) = 256 + 256 * i by omega, ← List.drop_drop, ← List.drop_drop] at this
      exact this)
    rw [← List.take_append_drop 256 X, h0, ih, List.take_append_drop]
theorem ov_g1 {g : Int} {v : List UInt8} {zs : List Int} (h : ovE g v zs = 0) : b8 ((ovL g v zs).getD 0 []) 1 = g := by
  have hf := ov_facts h
  cases hs : sgB g with
  | true =>
    rw [ovL_ch h hs hf.1]
    exact (chP_facts h hs 0).2.1
  | false =>
    obtain rfl : g = 3 := by
      unfold sgB at hs
      have := of_decide_eq_false hs
      omega
    rw [ovL_ex h hf.1]
    obtain ⟨S, hS, e⟩ := exA_form (v := v) (n := zs.length) (by omega) (ex_facts h)
    unfold exP
    rw [e]
    rfl
theorem ov_pages {g : Int} {v : List UInt8} {k : Nat} (hk : 1 ≤ k) (hm : ovM g v.length = (k : Int)) (hk7 : k ≤ 7) : ovE g v (runI 2 k) = 0 ∧ (ovL g v (runI 2 k)).length = k ∧ ∀ x, x ∈ ovL g v (runI 2 k) → x.length = 256 := by
  have ho := ov_run (a := 2) hk hm (by omega) (by omega)
  exact ⟨ho, by rw [ovL_len ho, runI_len], ovL_len256 ho⟩
/-- A page of the image of which one bit is turned. -/
theorem torn_page {g : Int} {v : List UInt8} {k J t : Nat} (hk : 1 ≤ k) (hm : ovM g v.length = (k : Int)) (hk7 : k ≤ 7) (ht : t < 2048) (i : Nat) (hi : i < k) :
    pgI (flipB (List.replicate 512 0 ++ (ovL g v (runI 2 k)).flatten) (2048 * (2 + J) + t)) ((2 : Int) + (i : Int)) = some (if i = J then flipB ((ovL g v (runI 2 k)).getD i []) t else (ovL g v (runI 2 k)).getD i []) := by
  obtain ⟨ho, hl, h256⟩ := ov_pages hk hm hk7
  have hfl : (ovL g v (runI 2 k)).flatten.length = 256 * k := by rw [flat_len h256, hl]
  have hp := pg_of (pre := List.replicate 512 (0 : UInt8)) (post := []) (a := 2) (n := k) (by rw [List.length_replicate]) hfl hi
  rw [List.append_nil, flat_page _ _ h256 (by omega)] at hp
  have hp2 : pgI (List.replicate 512 0 ++ (ovL g v (runI 2 k)).flatten) ((2 : Int) + (i : Int)) = some ((ovL g v (runI 2 k)).getD i []) := hp
  have h9 := pgI_in hp2
  have hlen : (List.replicate 512 (0 : UInt8) ++ (ovL g v (runI 2 k)).flatten).length = 512 + 256 * k := by rw [List.length_append, List.length_replicate, hfl]
  have hz : ((2 : Int) + (i : Int)).toNat = 2 + i := by omega
  unfold pgI
  rw [if_pos (by rw [flipB_length, hlen]; omega), hz, flip_page _ _ _ (by rw [hlen]; omega)]
  rw [hz] at h9
  rw [← h9.2.2.2, show (2048 * (2 + J) + t) / 2048 = 2 + J by omega, show (2048 * (2 + J) + t) % 2048 = t by omega]
  by_cases q : i = J
  · rw [if_pos q, if_pos (by omega)]
  · rw [if_neg q, if_neg (by omega)]
theorem exA_take {v : List UInt8} {n i : Nat} : ((exA v n).drop (256 * i)).take 256 = exP v n i := rfl
theorem torn80 {g : Int} {v : List UInt8} {k J t : Nat} (hg : 2 ≤ g) (hk : 1 ≤ k) (hm : ovM g v.length = (k : Int)) (hk7 : k ≤ 7) (hJ : J < k) (ht1 : 16 ≤ t) (ht2 : t < 2048) :
    odE (imR (flipB (List.replicate 512 0 ++ (ovL g v (runI 2 k)).flatten) (2048 * (2 + J) + t))) 2 v.length = 80 := by
  obtain ⟨ho, hl, h256⟩ := ov_pages hk hm hk7
  have hpg := torn_page (g := g) (v := v) (J := J) (t := t) hk hm hk7 ht2
  obtain ⟨im, him⟩ : ∃ im, flipB (List.replicate 512 0 ++ (ovL g v (runI 2 k)).flatten) (2048 * (2 + J) + t) = im := ⟨_, rfl⟩
  rw [him] at hpg ⊢
  have h2 := hpg 0 (by omega)
  rw [show (2 : Int) + ((0 : Nat) : Int) = 2 from rfl] at h2
  have he : (imR im).e 2 1 = 0 := (imE_one h2).1
  unfold odE
  rw [if_pos he, if_neg]
  intro hok
  obtain ⟨hS, hlen⟩ := dec_st hok
  obtain ⟨v', hv'⟩ : ∃ x, (dcS (imR im) (dcG (imR im) 2) 2 (ovM (dcG (imR im) 2) v.length)).1 = x := ⟨_, rfl⟩
  obtain ⟨zs, hzs⟩ : ∃ x, (dcS (imR im) (dcG (imR im) 2) 2 (ovM (dcG (imR im) 2) v.length)).2 = x := ⟨_, rfl⟩
  obtain ⟨g', hg'⟩ : ∃ x, dcG (imR im) 2 = x := ⟨_, rfl⟩
  rw [hv', hzs, hg'] at hS
  rw [hv'] at hlen
  have hvl : v'.length = v.length := by omega
  clear hv' hzs hg' hok he hlen
  -- the generation is what it was
  have hgg : g' = g := by
    obtain ⟨z, hz, hzd, hp⟩ := hS.page (k := 0) (ov_facts hS.ok).1
    have hz2 := hS.head
    rw [hz] at hz2
    injection hz2 with hz2
    rw [hz2, h2] at hp
    injection hp with hp
    have a1 := ov_g1 hS.ok
    have a2 := ov_g1 ho
    rw [← hp] at a1
    by_cases q : 0 = J
    · rw [if_pos q, flip_b8 _ _ ht1, a2] at a1
      exact a1.symm
    · rw [if_neg q, a2] at a1
      exact a1.symm
  subst hgg
  have hlz : zs.length = k := by
    have := (ov_facts hS.ok).2.2.1
    rw [hvl, hm] at this
    omega
  cases hs : sgB g' with
  | true =>
    have hw : ∀ i, i ≤ J → zs.getD i 0 = 2 + (i : Int) := by
      intro i
      induction i with
      | zero => intro _; rw [getD_at hS.head]; rfl
      | succ i ih =>
        intro hi
        have h1 := ih (by omega)
        obtain ⟨z, hz, hzd, hp⟩ := hS.page (k := i) (by omega)
        rw [← hzd, h1, hpg i (by omega), if_neg (by omega)] at hp
        injection hp with hp
        rw [ovL_ch ho hs (by rw [runI_len]; omega), ovL_ch hS.ok hs (by omega)] at hp
        have b1 := (chP_facts hS.ok hs i).2.2.2.1
        have b2 := (chP_facts ho hs i).2.2.2.1
        rw [← hp, b2, runI_getD (by omega)] at b1
        exact b1.symm
    obtain ⟨z, hz, hzd, hp⟩ := hS.page (k := J) (by omega)
    rw [← hzd, hw J (Nat.le_refl _), hpg J hJ, if_pos rfl] at hp
    injection hp with hp
    rw [ovL_ch ho hs (by rw [runI_len]; omega), ovL_ch hS.ok hs (by omega)] at hp
    have s1 := (chP_facts ho hs J).2.2.2.2.2.2 (by omega)
    have s2 := (chP_facts hS.ok hs J).2.2.2.2.2.2 (by omega)
    have hl1 := (chP_facts ho hs J).2.2.2.2.1
    have hb := bit_one (chP g' v (runI 2 k) J) 4 t (by omega) (by omega) s1
    rw [hp, beq_eq_false_iff_ne] at hb
    exact hb s2
  | false =>
    obtain rfl : g' = 3 := by
      unfold sgB at hs
      have := of_decide_eq_false hs
      have := ov_facts ho
      omega
    have hw : ∀ i, i < k → zs.getD i 0 = 2 + (i : Int) := fun i hi => by
      have h3 := may_at3 (ov_facts hS.ok).2.2.2.2.2.2.2 i (by omega)
      rw [h3, getD_at hS.head]
    have e1 := ex_facts ho
    have e2 := ex_facts hS.ok
    rw [runI_len] at e1
    rw [hlz] at e2
    have hX : exA v' k = flipB (exA v k) (2048 * J + t) := by
      refine same_pages k _ _ (exA_len e2) (by rw [flipB_length, exA_len e1]) (fun i hi => ?_)
      obtain ⟨z, hz, hzd, hp⟩ := hS.page (k := i) (by omega)
      rw [← hzd, hw i hi, hpg i hi] at hp
      injection hp with hp
      rw [ovL_ex ho (by rw [runI_len]; omega), ovL_ex hS.ok (by omega), runI_len, hlz] at hp
      rw [flip_page _ _ _ (by rw [exA_len e1]; omega), exA_take, exA_take, ← hp, show (2048 * J + t) / 2048 = J by omega, show (2048 * J + t) % 2048 = t by omega]
      by_cases q : i = J
      · rw [if_pos q, if_pos q.symm]
      · rw [if_neg q, if_neg (fun h => q h.symm)]
    have s1 : sealB (exA v k) 4 = exA v k := sealB_again _ _
    have s2 : sealB (exA v' k) 4 = exA v' k := sealB_again _ _
    have hb := bit_one (exA v k) 4 (2048 * J + t) (by rw [exA_len e1]; omega) (by rw [exA_len e1]; omega) s1
    rw [← hX, beq_eq_false_iff_ne] at hb
    exact hb s2
end Go.Proofs.Ytbjfklgmbeaaoaa
