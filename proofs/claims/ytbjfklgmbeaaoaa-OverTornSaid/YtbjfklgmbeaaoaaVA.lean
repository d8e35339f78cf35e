/- The plain law of a value's pages: one answer. -/
import Derived.Test.YtbjfklgmbeaaoaaV9
set_option linter.unusedVariables false
set_option linter.unusedSimpArgs false
namespace Go.Proofs.Ytbjfklgmbeaaoaa
open Go.RowKit

theorem st_same {im : List UInt8} {g id : Int} {v : List UInt8} {zs : List Int} (h : Stands im g id v zs) : smB (imR im) zs (ovL g v zs) = true := by
  refine smB_yes (fun k hk => ?_)
  obtain ⟨z, hz, hzd, hp⟩ := h.page hk
  obtain ⟨e0, e1⟩ := imE_one hp
  unfold smAt
  rw [hzd]
  show (decide (imE im z 1 = 0) && decide (imB im z 1 = (ovL g v zs).getD k [])) = true
  rw [e0, e1, decide_eq_true rfl, decide_eq_true rfl]
  rfl
theorem st_dec {im : List UInt8} {g id : Int} {v : List UInt8} {zs : List Int} (h : Stands im g id v zs) : imE im id 1 = 0 ∧ dcG (imR im) id = g ∧ dcS (imR im) g id (ovM g v.length) = (v, zs) := by
  have hf := ov_facts h.ok
  have hp := h.pages 0 id h.head
  obtain ⟨e0, e1⟩ := imE_one hp
  have hh := st_head h
  have hr : rdP im id = (ovL g v zs).getD 0 [] := by rw [rdP, hp]; rfl
  refine ⟨e0, ?_, ?_⟩
  · unfold dcG
    show (if hE (imB im id 1) = 0 then hG (imB im id 1) else 0) = g
    rw [e1, ← hr, if_pos hh.1, hh.2]
  · unfold dcS
    rw [← hf.2.2.1, if_pos (by omega), Int.toNat_natCast]
    cases hs : sgB g with
    | true =>
      rw [if_pos rfl]
      have h1 := st_scB h hs zs.length 0 (by omega)
      rw [getD_at h.head, Nat.zero_mul, List.drop_zero, List.drop_zero] at h1
      rw [h1]
      rfl
    | false =>
      rw [if_neg (by decide)]
      obtain rfl : g = 3 := by
        unfold sgB at hs
        have := of_decide_eq_false hs
        omega
      obtain ⟨x0, x1⟩ := st_img h
      obtain ⟨S, hS, e2⟩ := exA_form (v := v) (n := zs.length) (by omega) (ex_facts h.ok)
      have h4 := ex_head (v := v) (n := zs.length) hf.2.1 (by omega) hS e2
      have h5 := ex_facts h.ok
      unfold exS
      show (if imE im id zs.length = 0 ∧ hE (imB im id zs.length) = 0 ∧ (imB im id zs.length).length = zs.length * 256 ∧ hNx (imB im id zs.length) ≤ (zs.length : Int) * 256 - 16 then some (((imB im id zs.length).drop 16).take (hNx (imB im id zs.length)).toNat, (List.range zs.length).map (fun (k : Nat) => id + (k : Int))) else none).getD ([], []) = (v, zs)
      rw [x0, x1, if_pos ⟨rfl, h4.1, by rw [exA_len h5]; omega, by rw [h4.2.2.1]; omega⟩, h4.2.2.1, h4.2.2.2, Int.toNat_natCast, List.take_left' rfl, ← (st_row h).2]
      rfl
theorem st_od {im : List UInt8} {g id : Int} {v : List UInt8} {zs : List Int} (h : Stands im g id v zs) : dcOk (imR im) id v.length ∧ odE (imR im) id v.length = 0 ∧ odG (imR im) id v.length = g ∧ odV (imR im) id v.length = v ∧ odZ (imR im) id v.length = zs := by
  obtain ⟨a1, a2, a3⟩ := st_dec h
  have hok : dcOk (imR im) id v.length := by
    unfold dcOk
    rw [a2, a3]
    exact ⟨h.ok, rfl, st_same h⟩
  have he : odE (imR im) id v.length = 0 := by
    unfold odE
    rw [show (imR im).e id 1 = imE im id 1 from rfl, a1, if_pos rfl, if_pos hok]
  refine ⟨hok, he, ?_, ?_, ?_⟩
  · unfold odG; rw [he, if_pos rfl, a2]
  · unfold odV; rw [he, if_pos rfl, a2, a3]
  · unfold odZ; rw [he, if_pos rfl, a2, a3]
theorem scB_head {r : RP} {g : Int} {k : Nat} {id : Int} {o : List UInt8} {l : List Int} (h : scB r g k id = some (o, l)) (h0 : 0 < l.length) : l[0]? = some id := by
  cases k with
  | zero =>
    rw [scB] at h
    injection h with h
    injection h with _ h
    subst h
    cases h0
  | succ k =>
    rw [scB] at h
    split at h
    · injection h with h
      injection h with _ h
      subst h
      cases h0
    · split at h
      · obtain ⟨⟨o2, l2⟩, _, h3⟩ := Option.map_eq_some_iff.1 h
        injection h3 with _ h3
        subst h3
        rfl
      · cases h
theorem dcS_head {r : RP} {g id mm : Int} (h0 : 0 < (dcS r g id mm).2.length) : (dcS r g id mm).2[0]? = some id := by
  unfold dcS at h0 ⊢
  split
  · rename_i h1
    rw [if_pos h1] at h0
    split
    · rename_i h2
      rw [if_pos h2] at h0
      cases hq : scB r g mm.toNat id with
      | none => rw [hq] at h0; cases h0
      | some p =>
        obtain ⟨o, l⟩ := p
        rw [hq] at h0
        exact scB_head hq h0
    · rename_i h2
      rw [if_neg h2] at h0
      unfold exS at h0 ⊢
      split
      · rename_i h3
        show ((List.range mm.toNat).map (fun (k : Nat) => id + (k : Int)))[0]? = some id
        rw [List.getElem?_map, List.getElem?_range (by omega)]
        show some (id + ((0 : Nat) : Int)) = some id
        congr 1
        omega
      · rename_i h3
        rw [if_neg h3] at h0
        cases h0
  · rename_i h1
    rw [if_neg h1] at h0
    cases h0
theorem dec_st {im : List UInt8} {id size : Int} (h : dcOk (imR im) id size) : Stands im (dcG (imR im) id) id (dcS (imR im) (dcG (imR im) id) id (ovM (dcG (imR im) id) size)).1 (dcS (imR im) (dcG (imR im) id) id (ovM (dcG (imR im) id) size)).2 ∧ ((dcS (imR im) (dcG (imR im) id) id (ovM (dcG (imR im) id) size)).1.length : Int) = size := by
  obtain ⟨h1, h2, h3⟩ := h
  have hf := ov_facts h1
  refine ⟨⟨h1, dcS_head hf.1, fun k z hz => ?_⟩, h2⟩
  have hk := (List.getElem?_eq_some_iff.1 hz).1
  have h4 := List.all_eq_true.1 h3 k (List.mem_range.2 hk)
  unfold smAt at h4
  rw [getD_at hz, Bool.and_eq_true] at h4
  have h5 : imE im z 1 = 0 := of_decide_eq_true h4.1
  have h6 : imB im z 1 = _ := of_decide_eq_true h4.2
  obtain ⟨q, hq⟩ := imE_zero h5
  rw [hq, ← h6, (imE_one hq).2]
theorem rIds_head (im : List UInt8) (g : Int) (k : Nat) (id : Int) (hk : 0 < k) : (rIds im g k id)[0]? = some id := by
  cases k with
  | zero => cases hk
  | succ k =>
    rw [rIds]
    split
    · rfl
    · split <;> rfl
theorem rIds_row (im : List UInt8) : ∀ (k : Nat) (id : Int), rIds im 3 k id = (List.range k).map (fun (j : Nat) => id + (j : Int))
  | 0, _ => rfl
  | k + 1, id => by
    rw [rIds, if_pos rfl, rIds_row im k (id + 1), List.range_succ_eq_map, List.map_cons, List.map_map]
    congr 1
    · omega
    · apply List.map_congr_left
      intro j _
      show id + 1 + (j : Int) = id + ((j + 1 : Nat) : Int)
      omega
theorem rdA_st {im : List UInt8} {g id : Int} {v : List UInt8} {zs : List Int} (h : Stands im g id v zs) : zs.map (rdP im) = ovL g v zs := by
  apply List.ext_getElem?
  intro k
  rcases Nat.lt_or_ge k zs.length with hk | hk
  · obtain ⟨z, hz, hzd, hp⟩ := h.page hk
    have hk2 : k < (ovL g v zs).length := by rw [ovL_len h.ok]; exact hk
    rw [List.getElem?_map, hz, Option.map_some, rdP, hp, Option.getD_some, List.getD_eq_getElem?_getD, List.getElem?_eq_getElem hk2]
    rfl
  · rw [List.getElem?_eq_none (by rw [List.length_map]; exact hk), List.getElem?_eq_none (by rw [ovL_len h.ok]; exact hk)]
theorem st_ref {im : List UInt8} {g id : Int} {v : List UInt8} {zs : List Int} (h : Stands im g id v zs) : rdOk im id v.length ∧ rdG im id = g ∧ rdL im id v.length = zs ∧ (rdV im g zs).take v.length = v := by
  have hf := ov_facts h.ok
  have hh := st_head h
  have hg : rdG im id = g := by unfold rdG; rw [if_pos hh.1, hh.2]
  have hl : rdL im id v.length = zs := by
    unfold rdL
    rw [hg, ← hf.2.2.1, Int.toNat_natCast]
    cases hs : sgB g with
    | true =>
      have h1 := st_ids h hs zs.length 0 (by omega)
      rwa [getD_at h.head, List.drop_zero] at h1
    | false =>
      obtain rfl : g = 3 := by
        unfold sgB at hs
        have := of_decide_eq_false hs
        omega
      rw [rIds_row, ← (st_row h).2]
  have hv : (rdV im g zs).take v.length = v := by
    cases hs : sgB g with
    | true =>
      have h1 := st_val h hs zs.length 0 (by omega)
      have hg12 := (ch_facts h.ok hs).1
      rw [Nat.zero_mul, Nat.sub_zero, List.drop_zero, List.drop_zero] at h1
      unfold rdV
      rw [if_neg (by omega)]
      unfold rdV0
      rw [if_pos (by omega)]
      exact h1
    | false =>
      obtain rfl : g = 3 := by
        unfold sgB at hs
        have := of_decide_eq_false hs
        omega
      unfold rdV
      rw [if_pos rfl]
      unfold rdA
      rw [rdA_st h]
      have h2 : ovL 3 v zs = exL v zs.length := by unfold ovL; rw [if_pos h.ok, if_neg (by decide)]
      obtain ⟨S, hS, e2⟩ := exA_form (v := v) (n := zs.length) (by omega) (ex_facts h.ok)
      have h4 := ex_head (v := v) (n := zs.length) hf.2.1 (by omega) hS e2
      rw [h2, ex_join (ex_facts h.ok), h4.2.2.2, List.take_left' rfl]
  have hlen : v.length ≤ (rdV im g zs).length := by
    have h1 := congrArg List.length hv
    rw [List.length_take] at h1
    omega
  refine ⟨?_, hg, hl, hv⟩
  unfold rdOk
  rw [hg, hl, Int.toNat_natCast, hv]
  refine ⟨hh.1, by rw [← hf.2.2.1]; omega, fun z hz => ?_, by omega, h.ok, ?_⟩
  · obtain ⟨k, hk⟩ := List.mem_iff_getElem?.1 hz
    rw [h.pages k z hk]
    rfl
  · unfold rdA
    rw [rdA_st h]
theorem ref_st {im : List UInt8} {id size : Int} (h : rdOk im id size) : Stands im (rdG im id) id ((rdV im (rdG im id) (rdL im id size)).take size.toNat) (rdL im id size) ∧ ((((rdV im (rdG im id) (rdL im id size)).take size.toNat).length : Nat) : Int) = size := by
  obtain ⟨h1, h2, h3, h4, h5, h6⟩ := h
  have hhi := ovM_hi (rdG im id) size
  have hin := ovM_in (g := rdG im id) (m := size) (by omega)
  have hfl : ovL (rdG im id) ((rdV im (rdG im id) (rdL im id size)).take size.toNat) (rdL im id size) = (rdL im id size).map (rdP im) := by
    refine flat_inj _ _ (ovL_len256 h5) (fun x hx => ?_) h6
    obtain ⟨z, hz, rfl⟩ := List.mem_map.1 hx
    have h7 := h3 z hz
    cases hp : pgI im z with
    | none => rw [hp] at h7; cases h7
    | some q =>
      rw [rdP, hp]
      exact (pgI_in hp).2.2.1
  refine ⟨⟨h5, ?_, fun k z hz => ?_⟩, ?_⟩
  · unfold rdL
    exact rIds_head _ _ _ _ (by omega)
  · have h7 := h3 z (List.mem_of_getElem? hz)
    cases hp : pgI im z with
    | none => rw [hp] at h7; cases h7
    | some q =>
      rw [hfl, List.getD_eq_getElem?_getD, List.getElem?_map, hz]
      show some q = some (rdP im z)
      rw [rdP, hp]
      rfl
  · rw [List.length_take]
    omega
/-- Program and document answer alike. -/
theorem dec_iff {im : List UInt8} {id size : Int} (h1 : imE im id 1 = 0) : (¬ rdOk im id size → odE (imR im) id size = 80) ∧ (rdOk im id size → odE (imR im) id size = 0 ∧ odG (imR im) id size = rdG im id ∧ odV (imR im) id size = (rdV im (rdG im id) (rdL im id size)).take size.toNat ∧ odZ (imR im) id size = rdL im id size) := by
  constructor
  · intro h
    unfold odE
    rw [show (imR im).e id 1 = imE im id 1 from rfl, h1, if_pos rfl, if_neg]
    intro hd
    obtain ⟨hs, hl⟩ := dec_st hd
    have h2 := (st_ref hs).1
    rw [hl] at h2
    exact h h2
  · intro h
    obtain ⟨hs, hl⟩ := ref_st h
    have h2 := st_od hs
    rw [hl] at h2
    exact h2.2
end Go.Proofs.Ytbjfklgmbeaaoaa
