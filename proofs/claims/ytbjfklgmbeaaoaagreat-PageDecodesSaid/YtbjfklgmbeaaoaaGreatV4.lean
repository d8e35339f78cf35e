/- The plain law of a page's bytes: what the document writes of a node is what the program does. -/
import Derived.Test.YtbjfklgmbeaaoaaGreatV3
set_option linter.unusedVariables false
set_option linter.unusedSimpArgs false
namespace Go.Proofs.YtbjfklgmbeaaoaaGreat
open Go.RowKit

theorem right_item1 {g : Int} {v : NV} (hr : rightN g v = true) {q : IV} (hq : q ∈ v.items) (hlk : lacksB q = false) : ItOk g q := by
  have hg := (right_bnd hr).1
  have hw : wrongB g q = false := by
    unfold rightN at hr
    rw [Bool.and_eq_true, Bool.and_eq_true] at hr
    have hb := hr.2.1
    split at hb
    · unfold leafB at hb
      rw [Bool.and_eq_true, Bool.not_eq_true'] at hb
      cases hw : wrongB g q with
      | false => rfl
      | true => have := hb.2; rw [List.any_eq_true.2 ⟨q, hq, hw⟩] at this; cases this
    · unfold branchB at hb
      rw [Bool.and_eq_true] at hb
      have := (of_decide_eq_true hb.1).2.1
      rw [List.eq_nil_of_length_eq_zero this] at hq
      cases hq
  have h4 : rightB g q.k.length q.v.length q.s q.r = true := by unfold wrongB at hw; revert hw; cases rightB g q.k.length q.v.length q.s q.r <;> simp
  unfold rightB at h4
  rw [Bool.and_eq_true] at h4
  obtain ⟨h5, h6⟩ := of_decide_eq_true h4.1
  have h7 := why_in h5
  have h8 := mk_le g
  have h9 := mv_le g
  have h10 := h4.2
  by_cases hr0 : q.r = 0
  · rw [if_pos hr0] at h10
    have hs := of_decide_eq_true h10
    have h32 : ¬ (32 < (q.v.length : Int)) := fun h => by
      unfold lacksB farB at hlk
      rw [decide_eq_true h, Bool.or_true, Bool.true_and] at hlk
      exact absurd hr0 (of_decide_eq_false hlk)
    exact ⟨hg, by omega, ⟨by unfold longI; rw [if_pos hr0]; omega, by omega⟩, .inl ⟨hr0, hs, by omega⟩⟩
  · rw [if_neg hr0] at h10
    have hs := of_decide_eq_true h10
    exact ⟨hg, by omega, ⟨by unfold longI; rw [if_neg hr0]; omega, by omega⟩, .inr ⟨hr0, hs.1, hs.2.1, List.eq_nil_of_length_eq_zero hs.2.2.2⟩⟩
/-- The page of a node, by the document's Wrap. -/
theorem enc_rw {g : Int} {v : NV} (h : encOk g v = true) : pgE g v = rwE (encK v) g (encC v) 0 (encY g v).length ∧ pgB g v = rwB (encK v) g (encC v) 0 (encY g v) := by
  have hw := enc_wst h
  have hfit := encY_fits h
  have hE : pgE g v = wrE (encK v) g (encC v) 0 (encSI g v).xs := by
    unfold pgE
    rw [if_pos h, hw, if_neg (by show ¬ (false = true); decide)]
  have hx : (encSI g v).xs = encY g v ++ List.replicate ((cpI g).toNat - (encY g v).length) 0 := by rw [hw]; rfl
  have hxl : (encSI g v).xs.length = (cpI g).toNat := by rw [hw, wst_xs _ _ (by omega)]
  have hbad : ∀ ct : Int, rwBad g ct 0 (encSI g v).xs.length ↔ rwBad g ct 0 (encY g v).length := fun ct => by
    unfold rwBad
    rw [hxl]
    omega
  have h1 : pgE g v = rwE (encK v) g (encC v) 0 (encY g v).length := by
    rw [hE, wrE_eq (by omega)]
    unfold rwE
    simp only [hbad]
  refine ⟨h1, ?_⟩
  by_cases h0 : pgE g v = 0
  · have hB : pgB g v = wrB (encK v) g (encC v) 0 (encSI g v).xs := by unfold pgB; rw [if_pos h0]
    rw [hB, wrB_eq (by omega)]
    have e1 : rwE (encK v) g (encC v) 0 (encY g v).length = 0 := by rw [← h1]; exact h0
    have e2 : rwE (encK v) g (encC v) 0 (encSI g v).xs.length = 0 := by rw [← wrE_eq (by omega), ← hE]; exact h0
    have hk : knownB (encK v) g = true := by
      cases hk : knownB (encK v) g with
      | true => rfl
      | false => unfold rwE at e1; rw [hk] at e1; cases e1
    have hl := hd_len (encK v) g (encC v) 0 (known_in hk).2
    unfold rwB
    rw [if_pos e1, if_pos e2]
    have hP : rwP (encK v) g (encC v) 0 (encSI g v).xs = rwP (encK v) g (encC v) 0 (encY g v) := by
      unfold rwP
      rw [hx, List.length_append, List.length_append, List.length_append, List.length_replicate, show 256 - ((rwHd (encK v) g (encC v) 0).length + ((encY g v).length + ((cpI g).toNat - (encY g v).length))) = 0 by omega, List.replicate_zero, List.append_nil, List.append_assoc,
        show 256 - ((rwHd (encK v) g (encC v) 0).length + (encY g v).length) = (cpI g).toNat - (encY g v).length by omega]
    rw [hP]
  · unfold pgB rwB
    rw [if_neg h0, if_neg (by rw [← h1]; exact h0)]
end Go.Proofs.YtbjfklgmbeaaoaaGreat
