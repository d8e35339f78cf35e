/- The plain law of a value's pages: program and document find the same. -/
import Derived.Test.YtbjfklgmbeaaoaaV8
set_option linter.unusedVariables false
set_option linter.unusedSimpArgs false
namespace Go.Proofs.Ytbjfklgmbeaaoaa
open Go.RowKit

theorem flat_inj : ∀ (a b : List (List UInt8)), (∀ x, x ∈ a → x.length = 256) → (∀ x, x ∈ b → x.length = 256) → a.flatten = b.flatten → a = b
  | [], [], _, _, _ => rfl
  | [], y :: b, _, h2, h => by
    have h3 := h2 y List.mem_cons_self
    rw [List.flatten_nil, List.flatten_cons] at h
    have h4 := congrArg List.length h
    rw [List.length_append, List.length_nil] at h4
    omega
  | x :: a, [], h1, _, h => by
    have h3 := h1 x List.mem_cons_self
    rw [List.flatten_nil, List.flatten_cons] at h
    have h4 := congrArg List.length h
    rw [List.length_append, List.length_nil] at h4
    omega
  | x :: a, y :: b, h1, h2, h => by
    rw [List.flatten_cons, List.flatten_cons] at h
    obtain ⟨e1, e2⟩ := List.append_inj h ((h1 x List.mem_cons_self).trans (h2 y List.mem_cons_self).symm)
    rw [e1, flat_inj a b (fun z hz => h1 z (List.mem_cons_of_mem _ hz)) (fun z hz => h2 z (List.mem_cons_of_mem _ hz)) e2]
theorem ovL_len256 {g : Int} {v : List UInt8} {zs : List Int} (h : ovE g v zs = 0) : ∀ x, x ∈ ovL g v zs → x.length = 256 := by
  intro x hx
  unfold ovL at hx
  rw [if_pos h] at hx
  cases hs : sgB g with
  | true =>
    rw [if_pos hs] at hx
    obtain ⟨k, _, rfl⟩ := List.mem_map.1 hx
    exact (chP_facts h hs k).2.2.2.2.1
  | false =>
    rw [if_neg (by rw [hs]; decide)] at hx
    have hf := ov_facts h
    obtain rfl : g = 3 := by
      unfold sgB at hs
      have := of_decide_eq_false hs
      omega
    obtain ⟨k, hk, rfl⟩ := List.mem_map.1 hx
    have h2 := ex_facts h
    have h3 := List.mem_range.1 hk
    unfold exP
    rw [List.length_take, List.length_drop, exA_len h2]
    omega
theorem Stands.page {im : List UInt8} {g id : Int} {v : List UInt8} {zs : List Int} (h : Stands im g id v zs) {k : Nat} (hk : k < zs.length) : ∃ z, zs[k]? = some z ∧ zs.getD k 0 = z ∧ pgI im z = some ((ovL g v zs).getD k []) :=
  ⟨zs[k], List.getElem?_eq_getElem hk, getD_at (List.getElem?_eq_getElem hk), h.pages k _ (List.getElem?_eq_getElem hk)⟩
/-- A chain is read as it stands. -/
theorem st_scB {im : List UInt8} {g id : Int} {v : List UInt8} {zs : List Int} (h : Stands im g id v zs) (hs : sgB g = true) : ∀ (d k : Nat), k + d = zs.length → scB (imR im) g d (zs.getD k 0) = some (v.drop (k * (cpI g).toNat), zs.drop k)
  | 0, k, hk => by
    have hf := ch_facts h.ok hs
    have e : k = zs.length := by omega
    subst e
    rw [scB, List.drop_eq_nil_of_le hf.2.2.2.2.1, List.drop_length]
  | d + 1, k, hk => by
    have hf := ch_facts h.ok hs
    obtain ⟨z, hz, hzd, hp⟩ := h.page (k := k) (by omega)
    rw [ovL_ch h.ok hs (by omega)] at hp
    obtain ⟨e0, e1⟩ := imE_one hp
    obtain ⟨a1, a2, a3, a4, a5, a6, _⟩ := chP_facts h.ok hs k
    have hzi := ov_in h.ok hz
    have hok : scOk (imR im) g z := by
      refine ⟨e0, ?_⟩
      show hE (imB im z 1) = 0 ∧ hC (imB im z 1) ≤ cpI g ∧ (imB im z 1).length = 256 ∧ hG (imB im z 1) = g
      rw [e1]
      refine ⟨a1, ?_, a5, a2⟩
      rw [a3, seg_len]
      omega
    rw [hzd, scB_step (by omega) hok]
    show (scB (imR im) g d (hNx (imB im z 1))).map _ = _
    rw [e1, a4, st_scB h hs d (k + 1) (by omega)]
    have hv : scV (imR im) z = seg g v k := by
      show (bodyL (imB im z 1)).take (hC (imB im z 1)).toNat = _
      rw [e1, a6, a3, Int.toNat_natCast, List.take_left' rfl]
    rw [Option.map_some, hv]
    have h1 : seg g v k ++ v.drop ((k + 1) * (cpI g).toNat) = v.drop (k * (cpI g).toNat) := by
      unfold seg
      rw [Nat.succ_mul, ← List.drop_drop, List.take_append_drop]
    have h2 : z :: zs.drop (k + 1) = zs.drop k := by
      have h3 := List.getElem?_eq_some_iff.1 hz
      rw [List.drop_eq_getElem_cons h3.1, h3.2]
    rw [h1, h2]
theorem st_ids {im : List UInt8} {g id : Int} {v : List UInt8} {zs : List Int} (h : Stands im g id v zs) (hs : sgB g = true) : ∀ (d k : Nat), k + d = zs.length → rIds im g d (zs.getD k 0) = zs.drop k
  | 0, k, hk => by
    have e : k = zs.length := by omega
    subst e
    rw [rIds, List.drop_length]
  | d + 1, k, hk => by
    have hf := ch_facts h.ok hs
    obtain ⟨z, hz, hzd, hp⟩ := h.page (k := k) (by omega)
    rw [ovL_ch h.ok hs (by omega)] at hp
    obtain ⟨a1, a2, a3, a4, a5, a6, _⟩ := chP_facts h.ok hs k
    rw [hzd, rIds, if_neg (by omega), hp, Option.getD_some, if_pos ⟨rfl, a1⟩, a4, st_ids h hs d (k + 1) (by omega)]
    have h3 := List.getElem?_eq_some_iff.1 hz
    rw [List.drop_eq_getElem_cons h3.1, h3.2]
theorem st_val {im : List UInt8} {g id : Int} {v : List UInt8} {zs : List Int} (h : Stands im g id v zs) (hs : sgB g = true) : ∀ (d k : Nat), k + d = zs.length → (((zs.drop k).map (fun z => (rdP im z).drop (hdI g).toNat)).flatten).take (v.length - k * (cpI g).toNat) = v.drop (k * (cpI g).toNat)
  | 0, k, hk => by
    have hf := ch_facts h.ok hs
    have e : k = zs.length := by omega
    subst e
    rw [List.drop_eq_nil_of_le hf.2.2.2.2.1, List.drop_length]
    simp
  | d + 1, k, hk => by
    have hf := ch_facts h.ok hs
    obtain ⟨z, hz, hzd, hp⟩ := h.page (k := k) (by omega)
    rw [ovL_ch h.ok hs (by omega)] at hp
    obtain ⟨a1, a2, a3, a4, a5, a6, _⟩ := chP_facts h.ok hs k
    have ih := st_val h hs d (k + 1) (by omega)
    have h3 := List.getElem?_eq_some_iff.1 hz
    have hb : (rdP im z).drop (hdI g).toNat = seg g v k ++ List.replicate ((cpI g).toNat - (seg g v k).length) 0 := by
      rw [← a6, rdP, hp, Option.getD_some]
      unfold bodyL
      rw [if_pos ⟨a1, a5⟩, a2]
    rw [List.drop_eq_getElem_cons h3.1, h3.2, List.map_cons, List.flatten_cons, hb]
    have hl := seg_len g v k
    have hm1 : (k + 1) * (cpI g).toNat = k * (cpI g).toNat + (cpI g).toNat := Nat.succ_mul _ _
    rcases Nat.eq_zero_or_pos d with hd | hd
    · subst hd
      have e : zs.length = k + 1 := by omega
      have h5 := hf.2.2.2.2.1
      rw [e, hm1] at h5
      have h6 : (seg g v k).length = v.length - k * (cpI g).toNat := by omega
      rw [List.append_assoc, List.take_left' h6]
      unfold seg
      exact List.take_of_length_le (by rw [List.length_drop]; omega)
    · have h7 : k + 1 ≤ zs.length - 1 := by omega
      have h5 := Nat.mul_le_mul_right (cpI g).toNat h7
      have h8 := hf.2.2.2.2.2
      have h6 : (seg g v k).length = (cpI g).toNat := by omega
      rw [h6, Nat.sub_self, List.replicate_zero, List.append_nil, List.take_append, List.take_of_length_le (by rw [h6]; omega), h6]
      have h9 : v.length - k * (cpI g).toNat - (cpI g).toNat = v.length - (k + 1) * (cpI g).toNat := by omega
      rw [h9, ih, hm1, ← List.drop_drop]
      unfold seg
      exact List.take_append_drop _ _
/-- An extent's pages lie in a row. -/
theorem st_row {im : List UInt8} {id : Int} {v : List UInt8} {zs : List Int} (h : Stands im 3 id v zs) : 2 ≤ id ∧ zs = (List.range zs.length).map (fun (k : Nat) => id + (k : Int)) := by
  have hf := ov_facts h.ok
  have h0 := getD_at (d := 0) h.head
  refine ⟨(ov_in h.ok h.head).1, ?_⟩
  apply List.ext_getElem?
  intro k
  rcases Nat.lt_or_ge k zs.length with hk | hk
  · rw [List.getElem?_map, List.getElem?_range hk]
    obtain ⟨z, hz, hzd, _⟩ := h.page hk
    have := may_at3 hf.2.2.2.2.2.2.2 k hk
    rw [hz]
    show some z = some (id + (k : Int))
    congr 1
    omega
  · rw [List.getElem?_eq_none hk, List.getElem?_eq_none (by rw [List.length_map, List.length_range]; exact hk)]
theorem img_join (im : List UInt8) (i : Nat) : ∀ n, (im.drop (256 * i)).take (256 * n) = ((List.range n).map (fun k => (im.drop (256 * (i + k))).take 256)).flatten
  | 0 => by simp
  | n + 1 => by
    rw [List.range_succ, List.map_append, List.flatten_append, ← img_join im i n]
    simp only [List.map_cons, List.map_nil, List.flatten_cons, List.flatten_nil, List.append_nil]
    rw [show 256 * (n + 1) = 256 * n + 256 by omega, List.take_add, List.drop_drop, show 256 * i + 256 * n = 256 * (i + n) by omega]
theorem st_img {im : List UInt8} {id : Int} {v : List UInt8} {zs : List Int} (h : Stands im 3 id v zs) : imE im id zs.length = 0 ∧ imB im id zs.length = exA v zs.length := by
  have hf := ov_facts h.ok
  obtain ⟨h2, hr⟩ := st_row h
  obtain ⟨i, rfl⟩ := Int.eq_ofNat_of_zero_le (show 0 ≤ id by omega)
  have hz : ∀ k, k < zs.length → pgI im ((i : Int) + (k : Int)) = some (exP v zs.length k) := fun k hk => by
    obtain ⟨z, hz, hzd, hp⟩ := h.page hk
    rw [ovL_ex h.ok hk] at hp
    have h5 := may_at3 hf.2.2.2.2.2.2.2 k hk
    rw [getD_at (d := 0) h.head] at h5
    rw [← h5, hzd]
    exact hp
  have hl := pgI_in (hz (zs.length - 1) (by omega))
  have he : imE im (i : Int) zs.length = 0 := if_pos (by omega)
  refine ⟨he, ?_⟩
  unfold imB
  rw [he, if_pos rfl, Int.toNat_natCast, Int.toNat_natCast, img_join, ← ex_join (ex_facts h.ok)]
  congr 1
  unfold exL
  apply List.map_congr_left
  intro k hk
  have h6 := (pgI_in (hz k (List.mem_range.1 hk))).2.2.2
  rw [h6, show ((i : Int) + (k : Int)).toNat = i + k by omega]
theorem st_head {im : List UInt8} {g id : Int} {v : List UInt8} {zs : List Int} (h : Stands im g id v zs) : hE (rdP im id) = 0 ∧ hG (rdP im id) = g := by
  have hf := ov_facts h.ok
  have hp := h.pages 0 id h.head
  have e : rdP im id = (ovL g v zs).getD 0 [] := by rw [rdP, hp]; rfl
  rw [e]
  cases hs : sgB g with
  | true =>
    rw [ovL_ch h.ok hs hf.1]
    have := chP_facts h.ok hs 0
    exact ⟨this.1, this.2.1⟩
  | false =>
    obtain rfl : g = 3 := by
      unfold sgB at hs
      have := of_decide_eq_false hs
      omega
    rw [ovL_ex h.ok hf.1]
    have h2 := ex_facts h.ok
    obtain ⟨S, hS, e2⟩ := exA_form (v := v) (n := zs.length) (by omega) h2
    have e3 : exP v zs.length 0 = (two8 79 3 ++ le8 (zs.length : Int) 2 ++ S) ++ (le8 (v.length : Int) 8 ++ (v ++ List.replicate (256 * zs.length - (16 + v.length)) 0).take 240) := by
      unfold exP
      rw [Nat.mul_zero, List.drop_zero, e2]
      have hP : (two8 79 3 ++ le8 (zs.length : Int) 2 ++ S).length = 8 := by simp [two8, le8_length, hS]
      have hQ : (le8 (v.length : Int) 8).length = 8 := le8_length _ _
      rw [List.take_append, List.take_of_length_le (by rw [hP]; omega), hP, List.take_append, List.take_of_length_le (by rw [hQ]; omega), hQ]
    have h4 := ex_head (v := v) (n := zs.length) hf.2.1 (by omega) hS e3
    exact ⟨h4.1, h4.2.1⟩
end Go.Proofs.Ytbjfklgmbeaaoaa
