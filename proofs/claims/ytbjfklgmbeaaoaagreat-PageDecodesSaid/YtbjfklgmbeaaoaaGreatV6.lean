/- The plain law of a page's node: the document's form says what the program's Decode says. -/
import Derived.Test.YtbjfklgmbeaaoaaGreatV5
set_option linter.unusedVariables false
set_option linter.unusedSimpArgs false
namespace Go.Proofs.YtbjfklgmbeaaoaaGreat
open Go.RowKit

theorem sum4_mid (xs : List UInt8) (a : Nat) (s : Int) (h : a + 4 ≤ xs.length) : ((sum4 xs a s).drop a).take 4 = [byt8 s, byt8 (s / 256), byt8 (s / 65536), byt8 (s / 16777216)] := by
  apply List.ext_getElem?
  intro i
  unfold sum4
  rcases (show i = 0 ∨ i = 1 ∨ i = 2 ∨ i = 3 ∨ 4 ≤ i by omega) with rfl | rfl | rfl | rfl | hi
  · simp [List.getElem?_take, List.getElem?_drop, List.getElem?_set]; omega
  · simp [List.getElem?_take, List.getElem?_drop, List.getElem?_set]; omega
  · simp [List.getElem?_take, List.getElem?_drop, List.getElem?_set]; omega
  · simp [List.getElem?_take, List.getElem?_drop, List.getElem?_set]; omega
  · rw [List.getElem?_eq_none (by simp; omega), List.getElem?_eq_none (by simp; omega)]
theorem sum4_form (xs : List UInt8) (a : Nat) (s : Int) (h : a + 4 ≤ xs.length) : sum4 xs a s = xs.take a ++ ([byt8 s, byt8 (s / 256), byt8 (s / 65536), byt8 (s / 16777216)] ++ xs.drop (a + 4)) := by
  rw [← List.take_append_drop a (sum4 xs a s), sum4_take, ← List.take_append_drop 4 ((sum4 xs a s).drop a), sum4_mid xs a s h, List.drop_drop, sum4_drop]
/-- A seal at 4 hangs on the other bytes alone. -/
theorem seal4_eq {xs P : List UInt8} (h1 : xs.take 4 = P.take 4) (h2 : xs.drop 8 = P.drop 8) (hx : 8 ≤ xs.length) (hp : 8 ≤ P.length) : sealB xs 4 = sealB P 4 := by
  have e : ∀ z : List UInt8, 8 ≤ z.length → sealB z 4 = sum4 z 4 (othI z 4) := fun z hz => by unfold sealB; rw [if_pos ⟨by omega, by omega⟩]; rfl
  rw [e xs hx, e P hp, sum4_form xs 4 _ (by omega), sum4_form P 4 _ (by omega)]
  unfold othI
  rw [h1, h2]
theorem hC_le (xs : List UInt8) : 0 ≤ hC xs ∧ hC xs ≤ 65535 := by
  unfold hC
  have h1 := leN_lt ((xs.drop 2).take 2)
  have h2 : ((xs.drop 2).take 2).length ≤ 2 := by rw [List.length_take]; omega
  have h3 := Nat.pow_le_pow_right (show 0 < 256 by omega) h2
  have h5 : (256 : Nat) ^ 2 = 65536 := by decide
  omega
/-- A page in parts. -/
theorem head_split {xs : List UInt8} (hl : xs.length = 256) (h : hE xs = 0) : ∃ S : List UInt8, S.length = (if 1 < hG xs then 4 else 0) ∧ xs = (two8 (hK xs) (hG xs) ++ le8 (hC xs) 2 ++ S) ++ (le8 (hNx xs) (iwI (hG xs)).toNat ++ bodyL xs) := by
  obtain ⟨h4, hk, g1, g3, hfr, hnx⟩ := hE_in h
  have hb0 : le8 (hK xs) 1 = (xs.drop 0).take 1 := by
    unfold hK
    rw [b8_bN, le8_b xs 0 (by omega), List.drop_zero]
    conv => rhs; rw [← List.drop_zero (l := xs), List.drop_eq_getElem_cons (show 0 < xs.length by omega)]
    rfl
  have hb1 : le8 (hG xs) 1 = (xs.drop 1).take 1 := by
    show le8 (b8 xs 1) 1 = _
    rw [b8_bN, le8_b xs 1 (by omega), List.drop_eq_getElem_cons (show 1 < xs.length by omega)]
    rfl
  have hc : le8 (hC xs) 2 = (xs.drop 2).take 2 := take_le8 (by omega)
  have hn : le8 (hNx xs) (iwI (hG xs)).toNat = (xs.drop (hFr xs)).take (iwI (hG xs)).toNat := take_le8 (by omega)
  have hbd : bodyL xs = xs.drop (hFr xs + (iwI (hG xs)).toNat) := by
    unfold bodyL
    rw [if_pos ⟨h, hl⟩]
    congr 1
    unfold hFr
    rcases (show hG xs = 1 ∨ hG xs = 2 ∨ hG xs = 3 by omega) with e | e | e <;> rw [e] <;> decide
  refine ⟨(xs.drop 4).take (if 1 < hG xs then 4 else 0), by rw [List.length_take, List.length_drop]; split <;> omega, ?_⟩
  have hf : hFr xs = 4 + (if 1 < hG xs then 4 else 0) := by unfold hFr; split <;> rfl
  unfold two8
  rw [hb0, hb1, hc, hn, hbd]
  simp only [List.append_assoc]
  rw [← cut_at xs (hFr xs) (iwI (hG xs)).toNat, hf, ← cut_at xs 4 _, ← cut_at xs 2 2, ← cut_at xs 1 1, ← cut_at xs 0 1, List.drop_zero]
theorem zeros_all {X : List UInt8} {a : Nat} (h : zerosB X a = true) : X.drop a = List.replicate (X.length - a) 0 := by
  unfold zerosB at h
  rw [List.eq_replicate_iff]
  exact ⟨List.length_drop, fun b hb => by have := List.all_eq_true.1 h b hb; simpa using this⟩
/-- A page that has a node's parts is that node's page. -/
theorem page_of {xs : List UInt8} {v : NV} {m : Nat} (hl : xs.length = 256) (h : hE xs = 0) (hs : 1 < hG xs → sealB xs 4 = xs) (hok : encOk (hG xs) v = true) (hk : encK v = hK xs) (hc : encC v = hC xs) (hn : hNx xs = 0) (hb : bodyL xs = encY (hG xs) v ++ List.replicate m 0) : pgE (hG xs) v = 0 ∧ pgB (hG xs) v = xs := by
  obtain ⟨h4, hkn, g1, g3, hfr, hnx⟩ := hE_in h
  have hrw := enc_rw hok
  have hfit := encY_fits hok
  rw [hk, hc] at hrw
  have hcl := hC_le xs
  have hE0 : rwE (hK xs) (hG xs) (hC xs) 0 (encY (hG xs) v).length = 0 := by
    unfold rwE
    rw [if_pos hkn, if_neg (fun q => by unfold rwBad at q; omega)]
  refine ⟨hrw.1.trans hE0, ?_⟩
  rw [hrw.2]
  obtain ⟨S, hS, e⟩ := head_split hl h
  rw [hn, hb] at e
  have hhd := hd_len (hK xs) (hG xs) (hC xs) 0 ⟨g1, g3⟩
  have hll := congrArg List.length e
  have hiw := iw_in ⟨g1, g3⟩
  have hl2 : (two8 (hK xs) (hG xs)).length = 2 := by simp [two8, le8_length]
  have hhl : (rwHd (hK xs) (hG xs) (hC xs) 0).length = 4 + (if 1 < hG xs then 4 else 0) + (iwI (hG xs)).toNat := by
    unfold rwHd
    simp only [List.length_append, hl2, le8_length]
    split <;> simp [le8_length]
  simp only [List.length_append, hl2, le8_length, List.length_replicate, hS, hl] at hll
  have hm : 256 - (rwHd (hK xs) (hG xs) (hC xs) 0 ++ encY (hG xs) v).length = m := by rw [List.length_append, hhl]; omega
  have hP : rwP (hK xs) (hG xs) (hC xs) 0 (encY (hG xs) v) = (two8 (hK xs) (hG xs) ++ le8 (hC xs) 2 ++ (if 1 < hG xs then le8 0 4 else [])) ++ (le8 0 (iwI (hG xs)).toNat ++ (encY (hG xs) v ++ List.replicate m 0)) := by
    unfold rwP
    rw [hm]
    unfold rwHd
    simp only [List.append_assoc]
  unfold rwB
  rw [if_pos hE0, rsealB_eq, hP]
  by_cases q : 1 < hG xs
  · rw [if_pos q, if_pos q]
    rw [if_pos q] at hS
    have hl4 : (two8 (hK xs) (hG xs) ++ le8 (hC xs) 2).length = 4 := by rw [List.length_append, hl2, le8_length]
    have t4 : ∀ T R : List UInt8, ((two8 (hK xs) (hG xs) ++ le8 (hC xs) 2 ++ T) ++ R).take 4 = two8 (hK xs) (hG xs) ++ le8 (hC xs) 2 := fun T R => by rw [List.append_assoc]; exact List.take_left' hl4
    have t8 : ∀ T R : List UInt8, T.length = 4 → ((two8 (hK xs) (hG xs) ++ le8 (hC xs) 2 ++ T) ++ R).drop 8 = R := fun T R hT => List.drop_left' (by rw [List.length_append, hl4, hT])
    refine (seal4_eq ?_ ?_ ?_ (by omega)).trans (hs q)
    · rw [t4]
      conv => rhs; rw [e]
      rw [t4]
    · rw [t8 _ _ (le8_length _ _)]
      conv => rhs; rw [e]
      rw [t8 _ _ hS]
    · simp only [List.length_append, hl2, le8_length]
      omega
  · rw [if_neg q, if_neg q]
    rw [if_neg q] at hS
    rw [List.eq_nil_of_length_eq_zero hS] at e
    exact e.symm
theorem any_lacks {l : List IV} (h : l.any lacksB = false) : ∀ q ∈ l, lacksB q = false := fun q hq => by
  cases hw : lacksB q with
  | false => rfl
  | true => rw [List.any_eq_true.2 ⟨q, hq, hw⟩] at h; cases h
theorem form_page {xs : List UInt8} {v : NV} (hl : xs.length = 256) (h : hE xs = 0) (hk : hK xs = 76 ∨ hK xs = 66) (hs : 1 < hG xs → sealB xs 4 = xs) (hf : formP xs = some v) : pgE (hG xs) v = 0 ∧ pgB (hG xs) v = xs := by
  have hcl := hC_le xs
  unfold formP at hf
  split at hf
  · rename_i hk76
    split at hf
    · cases hf
    · rename_i t ht
      split at hf
      · rename_i hq
        injection hf with hf
        subst hf
        obtain ⟨hz, hlk, hn, hr⟩ := hq
        have hI : ∀ q ∈ t.1, ItOk (hG xs) q := fun q hq => right_item1 hr hq (any_lacks hlk q hq)
        obtain ⟨e1, e2, e3⟩ := pI_form _ _ ht hI
        have hok : encOk (hG xs) ⟨true, t.1, []⟩ = true := by unfold encOk; rw [hr, hlk]; rfl
        refine page_of (m := (bodyL xs).length - t.2) hl h hs hok ?_ ?_ hn ?_
        · rw [hk76]; rfl
        · show (if true = true then (t.1.length : Int) else _) = _
          rw [if_pos rfl, e3]
          omega
        · unfold encY
          rw [if_pos rfl, ← zeros_all hz]
          exact e1
      · cases hf
  · rename_i hk76
    have hk66 : hK xs = 66 := by rcases hk with q | q; exact absurd q hk76; exact q
    split at hf
    · cases hf
    · rename_i t ht
      split at hf
      · rename_i hq
        injection hf with hf
        subst hf
        obtain ⟨hz, hn, hr⟩ := hq
        obtain ⟨e1, e2, e3⟩ := pK_form _ _ ht (right_kids hr)
        have hok : encOk (hG xs) ⟨false, [], t.1⟩ = true := by unfold encOk; rw [hr]; rfl
        refine page_of (m := (bodyL xs).length - t.2) hl h hs hok ?_ ?_ hn ?_
        · rw [hk66]; rfl
        · show (if false = true then _ else (t.1.length : Int)) = _
          rw [if_neg (by decide), e3]
          omega
        · unfold encY
          rw [if_neg (fun q => by cases q), ← zeros_all hz]
          exact e1
      · cases hf
theorem dec_in {xs : List UInt8} (h : decE xs = 0) : xs.length = 256 ∧ hE xs = 0 ∧ (hK xs = 76 ∨ hK xs = 66) ∧ (1 < hG xs → sealB xs 4 = xs) ∧ (dN xs).2.2 = false ∧ pgE (hG xs) (dN xs).1 = 0 ∧ pgB (hG xs) (dN xs).1 = xs := by
  unfold decE at h
  split at h
  · cases h
  · rename_i h1
    split at h
    · rename_i h2; exact absurd h h2
    · rename_i h2
      split at h
      · cases h
      · rename_i h3
        split at h
        · cases h
        · rename_i h4
          split at h
          · cases h
          · rename_i h5
            refine ⟨Decidable.not_not.1 h1, Decidable.not_not.1 h2, Decidable.not_not.1 h3, fun q => Decidable.byContradiction (fun r => h4 ⟨q, r⟩), ?_, Decidable.byContradiction (fun r => h5 (.inr (.inl r))), Decidable.byContradiction (fun r => h5 (.inr (.inr r)))⟩
            cases hd : (dN xs).2.2 with
            | false => rfl
            | true => exact absurd (.inl hd) h5
theorem dec_form {xs : List UInt8} (h : decE xs = 0) : formP xs = some (decV xs) := by
  obtain ⟨hl, hE0, hk, hs, hsp, hp, hB⟩ := dec_in h
  have hV : decV xs = (dN xs).1 := by unfold decV; rw [if_pos h]
  obtain ⟨v, hv⟩ : ∃ v, (dN xs).1 = v := ⟨_, rfl⟩
  obtain ⟨g, hg⟩ : ∃ g, hG xs = g := ⟨_, rfl⟩
  rw [hV, hv]
  rw [hv, hg] at hp hB
  have hok : encOk g v = true := by
    cases hk : encOk g v with
    | true => rfl
    | false => unfold pgE at hp; rw [hk] at hp; cases hp
  have hw := enc_wst hok
  have hfit := encY_fits hok
  have hw2 : wrE (encK v) g (encC v) 0 (encSI g v).xs = 0 := by
    have hp2 := hp
    unfold pgE at hp2
    rw [if_pos hok, hw, if_neg (by show ¬ (false = true); decide)] at hp2
    rw [hw]
    exact hp2
  have hB2 : pgB g v = wrB (encK v) g (encC v) 0 (encSI g v).xs := by unfold pgB; rw [if_pos hp]
  rw [wrE_eq (by omega)] at hw2
  rw [wrB_eq (by omega)] at hB2
  obtain ⟨a1, a2, a3, a4, a5, a6⟩ := wrap_back (by omega) hw2
  rw [← hB2, hB] at a1 a2 a3 a4 a5 a6
  have hxl : (encSI g v).xs.length = (cpI g).toNat := by rw [hw, wst_xs _ _ (by omega)]
  rw [hxl, Nat.sub_self, List.replicate_zero, List.append_nil] at a6
  have hX : bodyL xs = encY g v ++ List.replicate ((cpI g).toNat - (encY g v).length) 0 := by rw [a6, hw]; rfl
  have hok2 := hok
  unfold encOk at hok2
  rw [Bool.and_eq_true, Bool.not_eq_true'] at hok2
  have hI := right_items hok2.1 hok2.2
  have hK := right_kids hok2.1
  have hr := hok2.1
  unfold rightN at hr
  rw [Bool.and_eq_true, Bool.and_eq_true] at hr
  have hb := hr.2.1
  have hzz : ∀ m : Nat, ((List.replicate m (0 : UInt8)).all fun x => x == 0) = true := fun m => by simp
  unfold formP
  rw [a2, a4, a3]
  obtain ⟨lf, items, kids⟩ := v
  cases lf with
  | true =>
    simp only [if_true] at hb
    unfold leafB at hb
    rw [Bool.and_eq_true] at hb
    have hkn : kids = [] := List.eq_nil_of_length_eq_zero (of_decide_eq_true hb.1)
    subst hkn
    unfold encY at hX
    rw [if_pos rfl] at hX
    obtain ⟨e1, e2, e3⟩ := pI_back hI hX items.length (Nat.le_refl _)
    rw [List.take_length] at e1 e2 e3
    rw [List.drop_length, List.flatMap_nil, List.nil_append] at e2
    rw [show encK ⟨true, items, []⟩ = 76 from rfl, if_pos rfl, show (encC ⟨true, items, []⟩).toNat = items.length from rfl, e1]
    simp only
    rw [if_pos ⟨by unfold zerosB; rw [e2]; exact hzz _, hok2.2, a5, hok2.1⟩]
  | false =>
    simp only [Bool.false_eq_true, if_false] at hb
    unfold branchB at hb
    rw [Bool.and_eq_true] at hb
    have hin : items = [] := List.eq_nil_of_length_eq_zero (of_decide_eq_true hb.1).2.1
    subst hin
    unfold encY at hX
    rw [if_neg (fun q => by cases q)] at hX
    obtain ⟨e1, e2, e3⟩ := pK_back hK hX kids.length (Nat.le_refl _)
    rw [List.take_length] at e1 e2 e3
    rw [List.drop_length, List.flatMap_nil, List.nil_append] at e2
    rw [show encK ⟨false, [], kids⟩ = 66 from rfl, if_neg (by decide), show (encC ⟨false, [], kids⟩).toNat = kids.length from rfl, e1]
    simp only
    rw [if_pos ⟨by unfold zerosB; rw [e2]; exact hzz _, a5, hok2.1⟩]
/-- The document's node, and the program's. -/
theorem form_some {xs : List UInt8} {v : NV} (hl : xs.length = 256) (h : hE xs = 0) (hk : hK xs = 76 ∨ hK xs = 66) (hs : 1 < hG xs → sealB xs 4 = xs) (hf : formP xs = some v) : decE xs = 0 ∧ decG xs = hG xs ∧ decV xs = v := by
  obtain ⟨h1, h2⟩ := form_page hl h hk hs hf
  have hd := dec_enc h1
  rw [h2] at hd
  exact ⟨hd.1, hd.2.1, hd.2.2.1⟩
theorem form_none {xs : List UInt8} (hl : xs.length = 256) (h : hE xs = 0) (hk : hK xs = 76 ∨ hK xs = 66) (hs : 1 < hG xs → sealB xs 4 = xs) (hf : formP xs = none) : decE xs = 72 := by
  have hne : decE xs ≠ 0 := fun q => by rw [dec_form q] at hf; cases hf
  unfold decE at hne ⊢
  rw [if_neg (fun q => q hl), if_neg (fun q => q h), if_neg (fun q => q hk), if_neg (fun q => q.2 (hs q.1))] at hne ⊢
  split
  · rfl
  · rename_i q
    rw [if_neg q] at hne
    exact absurd rfl hne
end Go.Proofs.YtbjfklgmbeaaoaaGreat
