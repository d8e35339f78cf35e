/- The plain law of a page: what Encode writes is decoded as it was. -/
import Derived.Test.YtbjfklgmbeaaoaaGreatKM
set_option linter.unusedVariables false
set_option linter.unusedSimpArgs false
namespace Go.Proofs.YtbjfklgmbeaaoaaGreat
open Go.RowKit

def itemY (g : Int) (q : IV) : List UInt8 := le8 (q.k.length : Int) 1 ++ (le8 (if q.r = 0 then 0 else 1) 1 ++ (le8 (longI q.v.length q.s q.r) 2 ++ (q.k ++ (q.v ++ (if q.r = 0 then [] else le8 q.r (iwI g).toNat)))))
def kidY (g : Int) (q : KV) : List UInt8 := le8 (q.k.length : Int) 1 ++ (q.k ++ le8 q.r (iwI g).toNat)
structure ItOk (g : Int) (q : IV) : Prop where
  hg : 1 ≤ g ∧ g ≤ 3
  k : q.k.length ≤ 24
  l : 0 ≤ longI q.v.length q.s q.r ∧ longI q.v.length q.s q.r ≤ 1600
  z : (q.r = 0 ∧ q.s = 0 ∧ q.v.length ≤ 32) ∨ (q.r ≠ 0 ∧ 2 ≤ q.r ∧ q.r < 16384 ∧ q.v = [])
structure KdOk (g : Int) (q : KV) : Prop where
  hg : 1 ≤ g ∧ g ≤ 3
  k : q.k.length ≤ 24
  r : 2 ≤ q.r ∧ q.r < 16384
theorem fit_one {n : Int} (h : 0 ≤ n ∧ n ≤ 255) : fitsB n 1 = true := by unfold fitsB; rw [show (256 : Int) ^ (1 : Int).toNat = 256 from by decide]; exact decide_eq_true (by omega)
theorem fit_two {n : Int} (h : 0 ≤ n ∧ n ≤ 65535) : fitsB n 2 = true := by unfold fitsB; rw [show (256 : Int) ^ (2 : Int).toNat = 65536 from by decide]; exact decide_eq_true (by omega)
theorem fit_id {g n : Int} (hg : 1 ≤ g ∧ g ≤ 3) (h : 0 ≤ n ∧ n ≤ 65535) : fitsB n (iwI g) = true := (fits_iw hg (by omega)).2 (by omega)
theorem itemY_len {g : Int} {q : IV} : (itemY g q).length = 4 + q.k.length + q.v.length + (if q.r = 0 then 0 else (iwI g).toNat) := by
  unfold itemY
  simp only [List.length_append, le8_length]
  split <;> simp [le8_length] <;> omega
theorem kidY_len {g : Int} {q : KV} : (kidY g q).length = 1 + q.k.length + (iwI g).toNat := by
  unfold kidY
  simp only [List.length_append, le8_length]
  omega
theorem itemS_wst {c : Nat} {ys : List UInt8} {g : Int} {q : IV} (h : ItOk g q) (hc : ys.length + (itemY g q).length ≤ c) : itemS (wst c ys) g q = wst c (ys ++ itemY g q) := by
  rw [itemY_len] at hc
  have f1 : fitsB (q.k.length : Int) 1 = true := fit_one (by have := h.k; omega)
  have f2 : fitsB (if q.r = 0 then 0 else 1) 1 = true := fit_one (by split <;> omega)
  have f3 : fitsB (longI q.v.length q.s q.r) 2 = true := fit_two (by have := h.l; omega)
  unfold itemS
  simp only
  rw [put_wst f1 (by show _ + 1 ≤ c; omega), put_wst f2 (by simp only [List.length_append, le8_length]; show _ + 1 + 1 ≤ c; omega), put_wst f3 (by simp only [List.length_append, le8_length]; show _ + 1 + 1 + 2 ≤ c; omega),
    bytes_wst (by simp only [List.length_append, le8_length]; show _ + 1 + 1 + 2 + _ ≤ c; omega), bytes_wst (by simp only [List.length_append, le8_length]; show _ + 1 + 1 + 2 + _ + _ ≤ c; omega)]
  unfold itemY
  by_cases hr : q.r = 0
  · rw [if_pos hr, if_pos hr, if_pos hr]
    simp only [List.append_assoc, List.append_nil]
    rfl
  · rw [if_neg hr] at hc
    rw [if_neg hr, if_neg hr, if_neg hr]
    have f4 : fitsB q.r (iwI g) = true := fit_id h.hg (by rcases h.z with z | z; exact absurd z.1 hr; omega)
    rw [put_wst f4 (by simp only [List.length_append, le8_length]; show _ + 1 + 1 + 2 + _ + _ + _ ≤ c; omega)]
    simp only [List.append_assoc]
    rfl
theorem kidS_wst {c : Nat} {ys : List UInt8} {g : Int} {q : KV} (h : KdOk g q) (hc : ys.length + (kidY g q).length ≤ c) : kidS (wst c ys) g q = wst c (ys ++ kidY g q) := by
  rw [kidY_len] at hc
  have f1 : fitsB (q.k.length : Int) 1 = true := fit_one (by have := h.k; omega)
  have f4 : fitsB q.r (iwI g) = true := fit_id h.hg (by have := h.r; omega)
  unfold kidS
  rw [put_wst f1 (by show _ + 1 ≤ c; omega), bytes_wst (by simp only [List.length_append, le8_length]; show _ + 1 + _ ≤ c; omega), put_wst f4 (by simp only [List.length_append, le8_length]; show _ + 1 + _ + _ ≤ c; omega)]
  unfold kidY
  simp only [List.append_assoc]
  rfl
theorem fold_items {c : Nat} {g : Int} : ∀ (l : List IV) (ys : List UInt8), (∀ q ∈ l, ItOk g q) → ys.length + (l.flatMap (itemY g)).length ≤ c → l.foldl (fun s q => itemS s g q) (wst c ys) = wst c (ys ++ l.flatMap (itemY g))
  | [], ys, _, _ => by simp
  | q :: r, ys, h, hc => by
    rw [List.flatMap_cons, List.length_append] at hc
    rw [List.foldl_cons, itemS_wst (h q List.mem_cons_self) (by omega), fold_items r _ (fun p hp => h p (List.mem_cons_of_mem _ hp)) (by rw [List.length_append]; omega), List.flatMap_cons, List.append_assoc]
theorem fold_kids {c : Nat} {g : Int} : ∀ (l : List KV) (ys : List UInt8), (∀ q ∈ l, KdOk g q) → ys.length + (l.flatMap (kidY g)).length ≤ c → l.foldl (fun s q => kidS s g q) (wst c ys) = wst c (ys ++ l.flatMap (kidY g))
  | [], ys, _, _ => by simp
  | q :: r, ys, h, hc => by
    rw [List.flatMap_cons, List.length_append] at hc
    rw [List.foldl_cons, kidS_wst (h q List.mem_cons_self) (by omega), fold_kids r _ (fun p hp => h p (List.mem_cons_of_mem _ hp)) (by rw [List.length_append]; omega), List.flatMap_cons, List.append_assoc]
/-- A number, read where it was written. -/
theorem rd_le8 {n a : Nat} {X Q : List UInt8} {v wd : Int} (hn : n = X.length) (ha : a ≤ n) (hf : fitsB v wd = true) (hv : v ≤ 9223372036854775807) (h : X.drop a = le8 v wd.toNat ++ Q) :
    rgV n X (a, false) wd = v ∧ rgS n X (a, false) wd = (a + wd.toNat, false) ∧ X.drop (a + wd.toNat) = Q ∧ a + wd.toNat ≤ n := by
  have hw := of_decide_eq_true hf
  have e1 : (X.drop a).take wd.toNat = le8 v wd.toNat := by rw [h]; exact List.take_left' (le8_length _ _)
  have hl : (X.drop a).length = wd.toNat + Q.length := by rw [h, List.length_append, le8_length]
  rw [List.length_drop] at hl
  have hok : getOk n a false wd X = true := decide_eq_true ⟨rfl, hw.1, hw.2.1, by omega, by rw [e1]; have := leN_back hf; omega⟩
  refine ⟨?_, ?_, ?_, by omega⟩
  · show getV n a false wd X = v
    unfold getV
    rw [if_pos hok, e1]
    exact leN_back hf
  · show (getA n a false wd X, !getOk n a false wd X) = _
    unfold getA
    rw [if_pos hok, hok]
    rfl
  · rw [← List.drop_drop, h]
    exact List.drop_left' (le8_length _ _)
theorem rd_bytes {n a : Nat} {X B Q : List UInt8} (hn : n = X.length) (ha : a ≤ n) (h : X.drop a = B ++ Q) :
    rbV n X (a, false) (B.length : Int) = B ∧ rbS n (a, false) (B.length : Int) = (a + B.length, false) ∧ X.drop (a + B.length) = Q ∧ a + B.length ≤ n := by
  have hl : (X.drop a).length = B.length + Q.length := by rw [h, List.length_append]
  rw [List.length_drop] at hl
  have hok : rbOk n (a, false) (B.length : Int) = true := decide_eq_true ⟨rfl, by omega, by show (a : Int) + _ ≤ _; omega⟩
  refine ⟨?_, ?_, ?_, by omega⟩
  · unfold rbV
    rw [if_pos hok, Int.toNat_natCast]
    show (X.drop a).take B.length = B
    rw [h]
    exact List.take_left' rfl
  · unfold rbS
    rw [if_pos hok, Int.toNat_natCast]
  · rw [← List.drop_drop, h]
    exact List.drop_left' rfl
theorem rd_item {n a : Nat} {X Q : List UInt8} {g : Int} {q : IV} (hq : ItOk g q) (hn : n = X.length) (ha : a ≤ n) (h : X.drop a = itemY g q ++ Q) :
    rdI n X g (a, false) = (q, (a + (itemY g q).length, false)) ∧ X.drop (a + (itemY g q).length) = Q ∧ a + (itemY g q).length ≤ n := by
  have hlen : (itemY g q).length = 4 + q.k.length + q.v.length + (if q.r = 0 then 0 else (iwI g).toNat) := itemY_len
  unfold itemY at h
  simp only [List.append_assoc] at h
  obtain ⟨v1, s1, d1, l1⟩ := rd_le8 hn ha (fit_one (n := (q.k.length : Int)) (by have := hq.k; omega)) (by have := hq.k; omega) h
  obtain ⟨v2, s2, d2, l2⟩ := rd_le8 hn l1 (fit_one (n := if q.r = 0 then 0 else 1) (by split <;> omega)) (by split <;> omega) d1
  obtain ⟨v3, s3, d3, l3⟩ := rd_le8 hn l2 (fit_two (n := longI q.v.length q.s q.r) (by have := hq.l; omega)) (by have := hq.l; omega) d2
  obtain ⟨v4, s4, d4, l4⟩ := rd_bytes hn l3 d3
  have e1 : (1 : Int).toNat = 1 := rfl
  have e2 : (2 : Int).toNat = 2 := rfl
  unfold rdI
  simp only [v1, s1, v2, s2, v3, s3, v4, s4]
  by_cases hr : q.r = 0
  · rw [if_pos hr] at hlen d4
    have hs : q.s = 0 := by rcases hq.z with z | z; exact z.2.1; exact absurd hr z.1
    have hlg : longI q.v.length q.s q.r = (q.v.length : Int) := if_pos hr
    obtain ⟨v5, s5, d5, l5⟩ := rd_bytes hn l4 d4
    rw [if_pos (if_pos hr), hlg, v5, s5]
    rw [show a + (itemY g q).length = a + (1 : Int).toNat + (1 : Int).toNat + (2 : Int).toNat + q.k.length + q.v.length by omega]
    refine ⟨?_, ?_, l5⟩
    · obtain ⟨qk, qv, qs, qr⟩ := q
      simp only at hr hs
      subst hr hs
      rfl
    · rw [d5]
      rfl
  · rw [if_neg hr] at hlen d4
    have hv : q.v = [] := by rcases hq.z with z | z; exact absurd z.1 hr; exact z.2.2.2
    have hr2 : 2 ≤ q.r ∧ q.r < 16384 := by rcases hq.z with z | z; exact absurd z.1 hr; exact ⟨z.2.1, z.2.2.1⟩
    rw [hv, List.nil_append] at d4
    rw [hv] at hlen
    have hlg : longI q.v.length q.s q.r = q.s := if_neg hr
    obtain ⟨v5, s5, d5, l5⟩ := rd_le8 hn l4 (fit_id hq.hg (n := q.r) (by omega)) (by omega) d4
    rw [if_neg (by rw [if_neg hr]; decide), hlg, v5, s5]
    rw [show a + (itemY g q).length = a + (1 : Int).toNat + (1 : Int).toNat + (2 : Int).toNat + q.k.length + (iwI g).toNat by simp only [List.length_nil] at hlen; omega]
    refine ⟨?_, d5, l5⟩
    obtain ⟨qk, qv, qs, qr⟩ := q
    simp only at hv
    subst hv
    rfl
theorem rd_kid {n a : Nat} {X Q : List UInt8} {g : Int} {q : KV} (hq : KdOk g q) (hn : n = X.length) (ha : a ≤ n) (h : X.drop a = kidY g q ++ Q) :
    rdK n X g (a, false) = (q, (a + (kidY g q).length, false)) ∧ X.drop (a + (kidY g q).length) = Q ∧ a + (kidY g q).length ≤ n := by
  have hlen : (kidY g q).length = 1 + q.k.length + (iwI g).toNat := kidY_len
  unfold kidY at h
  simp only [List.append_assoc] at h
  obtain ⟨v1, s1, d1, l1⟩ := rd_le8 hn ha (fit_one (n := (q.k.length : Int)) (by have := hq.k; omega)) (by have := hq.k; omega) h
  obtain ⟨v4, s4, d4, l4⟩ := rd_bytes hn l1 d1
  obtain ⟨v5, s5, d5, l5⟩ := rd_le8 hn l4 (fit_id hq.hg (n := q.r) (by have := hq.r; omega)) (by have := hq.r; omega) d4
  have e1 : (1 : Int).toNat = 1 := rfl
  unfold rdK
  simp only [v1, s1, v4, s4, v5, s5]
  rw [show a + (kidY g q).length = a + (1 : Int).toNat + q.k.length + (iwI g).toNat by omega]
  exact ⟨rfl, d5, l5⟩
theorem dl_items {X Z : List UInt8} {g : Int} {l : List IV} (hq : ∀ q ∈ l, ItOk g q) (h : X = l.flatMap (itemY g) ++ Z) : ∀ k, k ≤ l.length → dlo X.length X g true k = (⟨true, l.take k, []⟩, (((l.take k).flatMap (itemY g)).length, false)) ∧ X.drop ((l.take k).flatMap (itemY g)).length = (l.drop k).flatMap (itemY g) ++ Z ∧ ((l.take k).flatMap (itemY g)).length ≤ X.length
  | 0, _ => by
    refine ⟨rfl, ?_, Nat.zero_le _⟩
    simpa using h
  | k + 1, hk => by
    obtain ⟨h1, h2, h3⟩ := dl_items hq h k (by omega)
    have hp : l[k]? = some l[k] := List.getElem?_eq_getElem (by omega)
    have hd : l.drop k = l[k] :: l.drop (k + 1) := List.drop_eq_getElem_cons (by omega)
    have ht : l.take (k + 1) = l.take k ++ [l[k]] := by rw [List.take_add_one, hp]; rfl
    rw [hd, List.flatMap_cons, List.append_assoc] at h2
    obtain ⟨e1, e2, e3⟩ := rd_item (hq _ (List.getElem_mem (by omega))) rfl h3 h2
    rw [ht, List.flatMap_append, List.length_append]
    simp only [List.flatMap_cons, List.flatMap_nil, List.append_nil]
    refine ⟨?_, e2, e3⟩
    show dstep X.length X g true (dlo X.length X g true k) = _
    rw [h1]
    unfold dstep
    simp only [Bool.false_eq_true, if_false, if_true]
    rw [e1]
theorem dl_kids {X Z : List UInt8} {g : Int} {l : List KV} (hq : ∀ q ∈ l, KdOk g q) (h : X = l.flatMap (kidY g) ++ Z) : ∀ k, k ≤ l.length → dlo X.length X g false k = (⟨false, [], l.take k⟩, (((l.take k).flatMap (kidY g)).length, false)) ∧ X.drop ((l.take k).flatMap (kidY g)).length = (l.drop k).flatMap (kidY g) ++ Z ∧ ((l.take k).flatMap (kidY g)).length ≤ X.length
  | 0, _ => by
    refine ⟨rfl, ?_, Nat.zero_le _⟩
    simpa using h
  | k + 1, hk => by
    obtain ⟨h1, h2, h3⟩ := dl_kids hq h k (by omega)
    have hp : l[k]? = some l[k] := List.getElem?_eq_getElem (by omega)
    have hd : l.drop k = l[k] :: l.drop (k + 1) := List.drop_eq_getElem_cons (by omega)
    have ht : l.take (k + 1) = l.take k ++ [l[k]] := by rw [List.take_add_one, hp]; rfl
    rw [hd, List.flatMap_cons, List.append_assoc] at h2
    obtain ⟨e1, e2, e3⟩ := rd_kid (hq _ (List.getElem_mem (by omega))) rfl h3 h2
    rw [ht, List.flatMap_append, List.length_append]
    simp only [List.flatMap_cons, List.flatMap_nil, List.append_nil]
    refine ⟨?_, e2, e3⟩
    show dstep X.length X g false (dlo X.length X g false k) = _
    rw [h1]
    unfold dstep
    simp only [Bool.false_eq_true, if_false]
    rw [e1]
theorem mk_le (g : Int) : mkI g ≤ 24 := by
  unfold mkI gen3
  split
  · omega
  · split
    · omega
    · split <;> omega
theorem mv_le (g : Int) : mvI g ≤ 1600 := by
  unfold mvI gen3
  split
  · omega
  · split
    · omega
    · split <;> omega
theorem why_in {g : Int} {nk nv : Nat} (h : whyI g nk nv = 0) : (nk : Int) ≤ mkI g := by
  unfold whyI at h
  revert h
  repeat' split
  all_goals (intro h; first | omega | (exfalso; revert h; decide))
theorem right_items {g : Int} {v : NV} (hr : rightN g v = true) (hl : v.items.any lacksB = false) : ∀ q ∈ v.items, ItOk g q := by
  intro q hq
  have hg := (right_bnd hr).1
  have hw : wrongB g q = false := by
    unfold rightN at hr
    rw [Bool.and_eq_true, Bool.and_eq_true] at hr
    have hb := hr.2.1
    split at hb
    · unfold leafB at hb
      rw [Bool.and_eq_true, Bool.not_eq_true'] at hb
      cases hw : wrongB g q with
      | false => rfl
      | true => have := hb.2; rw [List.any_eq_true.2 ⟨q, hq, hw⟩] at this; cases this
    · unfold branchB at hb
      rw [Bool.and_eq_true] at hb
      have := (of_decide_eq_true hb.1).2.1
      rw [List.eq_nil_of_length_eq_zero this] at hq
      cases hq
  have hlk : lacksB q = false := by
    cases h : lacksB q with
    | false => rfl
    | true => rw [List.any_eq_true.2 ⟨q, hq, h⟩] at hl; cases hl
  have h4 : rightB g q.k.length q.v.length q.s q.r = true := by unfold wrongB at hw; revert hw; cases rightB g q.k.length q.v.length q.s q.r <;> simp
  unfold rightB at h4
  rw [Bool.and_eq_true] at h4
  obtain ⟨h5, h6⟩ := of_decide_eq_true h4.1
  have h7 := why_in h5
  have h8 := mk_le g
  have h9 := mv_le g
  have h10 := h4.2
  by_cases hr0 : q.r = 0
  · rw [if_pos hr0] at h10
    have hs := of_decide_eq_true h10
    have h32 : ¬ (32 < (q.v.length : Int)) := fun h => by
      unfold lacksB farB at hlk
      rw [decide_eq_true h, Bool.or_true, Bool.true_and] at hlk
      exact absurd hr0 (of_decide_eq_false hlk)
    exact ⟨hg, by omega, ⟨by unfold longI; rw [if_pos hr0]; omega, by omega⟩, .inl ⟨hr0, hs, by omega⟩⟩
  · rw [if_neg hr0] at h10
    have hs := of_decide_eq_true h10
    refine ⟨hg, by omega, ⟨by unfold longI; rw [if_neg hr0]; omega, by omega⟩, .inr ⟨hr0, hs.1, hs.2.1, List.eq_nil_of_length_eq_zero hs.2.2.2⟩⟩
theorem right_kids {g : Int} {v : NV} (hr : rightN g v = true) : ∀ q ∈ v.kids, KdOk g q := by
  intro q hq
  have hg := (right_bnd hr).1
  have h8 := mk_le g
  unfold rightN at hr
  rw [Bool.and_eq_true, Bool.and_eq_true] at hr
  have hb := hr.2.1
  split at hb
  · unfold leafB at hb
    rw [Bool.and_eq_true] at hb
    have := of_decide_eq_true hb.1
    rw [List.eq_nil_of_length_eq_zero this] at hq
    cases hq
  · unfold branchB at hb
    rw [Bool.and_eq_true] at hb
    have h0 := (of_decide_eq_true hb.1).2.2
    obtain ⟨i, hi⟩ := List.getElem?_of_mem hq
    have h3 := (kidsB_iff g v.kids).1 hb.2 i q hi
    unfold kidB at h3
    rw [Bool.and_eq_true, Bool.or_eq_true] at h3
    have h4 := of_decide_eq_true h3.1
    refine ⟨hg, ?_, h4⟩
    rcases h3.2 with h5 | h5
    · have := of_decide_eq_true h5
      subst this
      rw [getD_of hi] at h0
      omega
    · have := of_decide_eq_true h5
      omega
def encY (g : Int) (v : NV) : List UInt8 := if v.leaf = true then v.items.flatMap (itemY g) else v.kids.flatMap (kidY g)
theorem room_item {g : Int} {q : IV} (h : ItOk g q) : ((itemY g q).length : Int) = roomI g q.k.length q.v.length q.r := by
  have hiw : ((iwI g).toNat : Int) = iwI g := by rcases iw_in h.hg with e | e <;> rw [e] <;> rfl
  have hgb : genB g = true := decide_eq_true h.hg
  rw [itemY_len]
  unfold roomI
  rw [if_pos hgb]
  rcases h.z with z | z
  · rw [if_pos z.1, if_neg]
    · omega
    · unfold farB
      rw [decide_eq_true z.1, decide_eq_false (by omega)]
      decide
  · rw [if_neg z.1, if_pos]
    · have : q.v.length = 0 := by rw [z.2.2.2]; rfl
      omega
    · unfold farB
      rw [decide_eq_false z.1]
      rfl
theorem room_kid {g : Int} {q : KV} (h : KdOk g q) : ((kidY g q).length : Int) = kidI g q.k.length := by
  have hiw : ((iwI g).toNat : Int) = iwI g := by rcases iw_in h.hg with e | e <;> rw [e] <;> rfl
  rw [kidY_len]
  have hgb : genB g = true := decide_eq_true h.hg
  unfold kidI
  rw [if_pos hgb]
  omega
theorem room_items {g : Int} : ∀ l : List IV, (∀ q ∈ l, ItOk g q) → ((l.flatMap (itemY g)).length : Int) = (l.map (fun q => roomI g q.k.length q.v.length q.r)).sum
  | [], _ => rfl
  | q :: r, h => by
    rw [List.flatMap_cons, List.length_append, List.map_cons, List.sum_cons, ← room_items r (fun p hp => h p (List.mem_cons_of_mem _ hp)), ← room_item (h q List.mem_cons_self)]
    omega
theorem room_kids {g : Int} : ∀ l : List KV, (∀ q ∈ l, KdOk g q) → ((l.flatMap (kidY g)).length : Int) = (l.map (fun q => kidI g q.k.length)).sum
  | [], _ => rfl
  | q :: r, h => by
    rw [List.flatMap_cons, List.length_append, List.map_cons, List.sum_cons, ← room_kids r (fun p hp => h p (List.mem_cons_of_mem _ hp)), ← room_kid (h q List.mem_cons_self)]
    omega
theorem encY_fits {g : Int} {v : NV} (h : encOk g v = true) : ((encY g v).length : Int) ≤ cpI g := by
  unfold encOk at h
  rw [Bool.and_eq_true, Bool.not_eq_true'] at h
  have hI := right_items h.1 h.2
  have hK := right_kids h.1
  have hf : fitsN g v = true := by
    have := h.1
    unfold rightN at this
    rw [Bool.and_eq_true, Bool.and_eq_true, Bool.and_eq_true] at this
    exact this.2.2.2
  have hf := of_decide_eq_true hf
  unfold roomS roomsL at hf
  unfold encY
  split
  · rename_i hl
    rw [if_pos hl] at hf
    rw [room_items _ hI]
    exact hf
  · rename_i hl
    rw [if_neg hl] at hf
    rw [room_kids _ hK]
    exact hf
/-- What is written of a node. -/
theorem enc_wst {g : Int} {v : NV} (h : encOk g v = true) : encSI g v = wst (cpI g).toNat (encY g v) := by
  have hfit := encY_fits h
  unfold encOk at h
  rw [Bool.and_eq_true, Bool.not_eq_true'] at h
  have hI := right_items h.1 h.2
  have hK := right_kids h.1
  have h1 := h.1
  unfold rightN at h1
  rw [Bool.and_eq_true, Bool.and_eq_true] at h1
  have hb := h1.2.1
  have h0 : encS0 g = wst (cpI g).toNat [] := rfl
  unfold encSI encSK
  unfold encY at hfit ⊢
  by_cases hl : v.leaf = true
  · rw [if_pos hl] at hb hfit ⊢
    unfold leafB at hb
    rw [Bool.and_eq_true] at hb
    rw [List.eq_nil_of_length_eq_zero (of_decide_eq_true hb.1), List.foldl_nil, h0, fold_items _ _ hI (by simp only [List.length_nil]; omega), List.nil_append]
  · rw [if_neg hl] at hb hfit ⊢
    unfold branchB at hb
    rw [Bool.and_eq_true] at hb
    rw [List.eq_nil_of_length_eq_zero (of_decide_eq_true hb.1).2.1, List.foldl_nil, h0, fold_kids _ _ hK (by simp only [List.length_nil]; omega), List.nil_append]
/-- What was encoded is decoded as it was. -/
theorem dec_enc {g : Int} {v : NV} (h : pgE g v = 0) : decE (pgB g v) = 0 ∧ decG (pgB g v) = g ∧ decV (pgB g v) = v ∧ (pgB g v).length = 256 := by
  have hok : encOk g v = true := by
    cases hk : encOk g v with
    | true => rfl
    | false => unfold pgE at h; rw [hk] at h; cases h
  have hw := enc_wst hok
  have hfit := encY_fits hok
  have hw2 : wrE (encK v) g (encC v) 0 (encSI g v).xs = 0 := by
    unfold pgE at h
    rw [if_pos hok, hw, if_neg (by show ¬ (false = true); decide)] at h
    rw [hw]
    exact h
  have hB : pgB g v = wrB (encK v) g (encC v) 0 (encSI g v).xs := by unfold pgB; rw [if_pos h]
  rw [wrE_eq (by omega)] at hw2
  rw [wrB_eq (by omega)] at hB
  obtain ⟨a1, a2, a3, a4, a5, a6⟩ := wrap_back (by omega) hw2
  obtain ⟨S, hk, hc, hf, hl, hS, e, hseal, hlen⟩ := rwB_form (by omega) hw2
  rw [← hB] at a1 a2 a3 a4 a5 a6 hseal hlen
  have hg := (known_in hk).2
  have hxl : (encSI g v).xs.length = (cpI g).toNat := by rw [hw, wst_xs _ _ (by omega)]
  rw [hxl, Nat.sub_self, List.replicate_zero, List.append_nil] at a6
  have hX : (encSI g v).xs = encY g v ++ List.replicate ((cpI g).toNat - (encY g v).length) 0 := by rw [hw]; rfl
  have hok2 := hok
  unfold encOk at hok2
  rw [Bool.and_eq_true, Bool.not_eq_true'] at hok2
  have hI := right_items hok2.1 hok2.2
  have hK := right_kids hok2.1
  have hr := hok2.1
  unfold rightN at hr
  rw [Bool.and_eq_true, Bool.and_eq_true] at hr
  have hdn : dN (pgB g v) = (v, ((encY g v).length, false)) := by
    unfold dN
    rw [a6, a3, a2, a4]
    have hb := hr.2.1
    obtain ⟨lf, items, kids⟩ := v
    cases lf with
    | true =>
      simp only [if_true] at hb
      unfold leafB at hb
      rw [Bool.and_eq_true] at hb
      have hkn : kids = [] := List.eq_nil_of_length_eq_zero (of_decide_eq_true hb.1)
      subst hkn
      have := (dl_items (X := (encSI g ⟨true, items, []⟩).xs) (l := items) hI hX items.length (Nat.le_refl _)).1
      rw [List.take_length] at this
      exact this
    | false =>
      simp only [Bool.false_eq_true, if_false] at hb
      unfold branchB at hb
      rw [Bool.and_eq_true] at hb
      have hin : items = [] := List.eq_nil_of_length_eq_zero (of_decide_eq_true hb.1).2.1
      subst hin
      have := (dl_kids (X := (encSI g ⟨false, [], kids⟩).xs) (l := kids) hK hX kids.length (Nat.le_refl _)).1
      rw [List.take_length] at this
      exact this
  have hkk : encK v = 76 ∨ encK v = 66 := by unfold encK; split <;> simp
  have hE0 : decE (pgB g v) = 0 := by
    unfold decE
    rw [if_neg (fun q => q hlen), if_neg (fun q => q a1), a2, if_neg (fun q => q hkk), a3, if_neg (fun q => q.2 (hseal q.1)), hdn, if_neg]
    rintro (q | q | q)
    · cases q
    · exact q h
    · exact q rfl
  refine ⟨hE0, ?_, ?_, hlen⟩
  · unfold decG
    rw [if_pos hE0, a3]
  · unfold decV
    rw [if_pos hE0, hdn]
end Go.Proofs.YtbjfklgmbeaaoaaGreat
