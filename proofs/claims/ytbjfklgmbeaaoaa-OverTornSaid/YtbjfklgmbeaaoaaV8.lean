/- The plain law of a value's pages: what the program's Decode finds in an image, and what the document's does, is the value whose pages stand there. -/
import Derived.Test.YtbjfklgmbeaaoaaWS
set_option linter.unusedVariables false
set_option linter.unusedSimpArgs false
namespace Go.Proofs.Ytbjfklgmbeaaoaa
open Go.RowKit

/-- A value's pages stand in an image. -/
structure Stands (im : List UInt8) (g id : Int) (v : List UInt8) (zs : List Int) : Prop where
  ok : ovE g v zs = 0
  head : zs[0]? = some id
  pages : ∀ (k : Nat) (z : Int), zs[k]? = some z → pgI im z = some ((ovL g v zs).getD k [])
theorem imE_one {im : List UInt8} {id : Int} {q : List UInt8} (h : pgI im id = some q) : imE im id 1 = 0 ∧ imB im id 1 = q := by
  have h1 := pgI_in h
  have h2 : imE im id 1 = 0 := if_pos (by omega)
  refine ⟨h2, ?_⟩
  unfold imB
  rw [h2, if_pos rfl, h1.2.2.2]
  rfl
theorem imE_none {im : List UInt8} {id : Int} (h : pgI im id = none) : imE im id 1 = 11 := by
  refine if_neg (fun q => ?_)
  unfold pgI at h
  rw [if_pos (by omega)] at h
  cases h
theorem imE_zero {im : List UInt8} {id : Int} (h : imE im id 1 = 0) : ∃ q, pgI im id = some q := by
  cases hp : pgI im id with
  | none => rw [imE_none hp] at h; cases h
  | some q => exact ⟨q, rfl⟩
theorem ov_facts {g : Int} {v : List UInt8} {zs : List Int} (h : ovE g v zs = 0) : 0 < zs.length ∧ zs.length ≤ 7 ∧ (zs.length : Int) = ovM g v.length ∧ 1 ≤ g ∧ g ≤ 3 ∧ 33 ≤ v.length ∧ v.length ≤ 1600 ∧ ∀ i, i < zs.length → mayAt g zs i = true := by
  obtain ⟨h1, h2, h3⟩ := may_many (ovE_may.1 h)
  have h4 := ovM_in h1
  have h5 := ovM_hi g (v.length : Int)
  exact ⟨by omega, by omega, h2, h4.1, h4.2.1, by omega, by omega, h3⟩
theorem ov_in {g : Int} {v : List UInt8} {zs : List Int} (h : ovE g v zs = 0) {k : Nat} {z : Int} (hz : zs[k]? = some z) : 2 ≤ z ∧ z < 16384 := by
  have hk : k < zs.length := (List.getElem?_eq_some_iff.1 hz).1
  have := mayAt_lt ((ov_facts h).2.2.2.2.2.2.2 k hk)
  rwa [getD_at hz] at this
theorem ch_facts {g : Int} {v : List UInt8} {zs : List Int} (h : ovE g v zs = 0) (hs : sgB g = true) : (g = 1 ∨ g = 2) ∧ 240 ≤ (cpI g).toNat ∧ (cpI g).toNat ≤ 248 ∧ (cpI g) = ((cpI g).toNat : Int) ∧ v.length ≤ zs.length * (cpI g).toNat ∧ (zs.length - 1) * (cpI g).toNat < v.length := by
  have hf := ov_facts h
  have hmm := hf.2.2.1
  have hg12 : g = 1 ∨ g = 2 := of_decide_eq_true hs
  refine ⟨hg12, ?_⟩
  have h33 := hf.2.2.2.2.2.1
  have h0 := hf.1
  unfold ovM at hmm
  rcases hg12 with rfl | rfl
  · have e : (cpI 1).toNat = 248 := rfl
    have e2 : cpI 1 = 248 := rfl
    rw [e, e2]
    split at hmm
    · omega
    · split at hmm
      · omega
      · split at hmm <;> omega
  · have e : (cpI 2).toNat = 240 := rfl
    have e2 : cpI 2 = 240 := rfl
    rw [e, e2]
    split at hmm
    · omega
    · split at hmm
      · omega
      · split at hmm <;> omega
def seg (g : Int) (v : List UInt8) (k : Nat) : List UInt8 := (v.drop (k * (cpI g).toNat)).take (cpI g).toNat
theorem seg_len (g : Int) (v : List UInt8) (k : Nat) : (seg g v k).length = min (cpI g).toNat (v.length - k * (cpI g).toNat) := by
  unfold seg
  rw [List.length_take, List.length_drop]
theorem next_in {g : Int} {v : List UInt8} {zs : List Int} (h : ovE g v zs = 0) (k : Nat) : 0 ≤ zs.getD k 0 ∧ zs.getD k 0 < 16384 := by
  rw [List.getD_eq_getElem?_getD]
  cases hq : zs[k]? with
  | none => exact ⟨by decide, by decide⟩
  | some z => have := ov_in h hq; exact ⟨by show 0 ≤ z; omega, this.2⟩
theorem chP_form {g : Int} {v : List UInt8} {zs : List Int} (h : ovE g v zs = 0) (hs : sgB g = true) (k : Nat) : chP g v zs k = rwB 79 g ((seg g v k).length : Int) (zs.getD (k + 1) 0) (seg g v k) ∧ rwE 79 g ((seg g v k).length : Int) (zs.getD (k + 1) 0) (seg g v k).length = 0 := by
  have hf := ch_facts h hs
  have hn := next_in h (k + 1)
  have hl := seg_len g v k
  constructor
  · unfold chP
    rw [wrB_eq (by omega)]
    have e1 : min (v.length - k * (cpI g).toNat) (cpI g).toNat = (seg g v k).length := by rw [hl, Nat.min_comm]
    have e2 : (v.drop (k * (cpI g).toNat)).take (seg g v k).length = seg g v k := by
      rw [hl]
      unfold seg
      by_cases q : (cpI g).toNat ≤ v.length - k * (cpI g).toNat
      · rw [Nat.min_eq_left q]
      · rw [Nat.min_eq_right (by omega), List.take_of_length_le (by rw [List.length_drop]; omega), List.take_of_length_le (by rw [List.length_drop]; omega)]
    rw [e1, e2]
  · unfold rwE
    have hk : knownB 79 g = true := by rcases hf.1 with rfl | rfl <;> decide
    rw [hk, if_pos rfl, if_neg]
    unfold rwBad
    have := hf.2.2.2.1
    omega
theorem chP_facts {g : Int} {v : List UInt8} {zs : List Int} (h : ovE g v zs = 0) (hs : sgB g = true) (k : Nat) :
    hE (chP g v zs k) = 0 ∧ hG (chP g v zs k) = g ∧ hC (chP g v zs k) = ((seg g v k).length : Int) ∧ hNx (chP g v zs k) = zs.getD (k + 1) 0 ∧ (chP g v zs k).length = 256 ∧ bodyL (chP g v zs k) = seg g v k ++ List.replicate ((cpI g).toNat - (seg g v k).length) 0 ∧ (1 < g → sealB (chP g v zs k) 4 = chP g v zs k) := by
  obtain ⟨e1, e2⟩ := chP_form h hs k
  have hn := next_in h (k + 1)
  obtain ⟨a1, _, a3, a4, a5, a6⟩ := wrap_back (by omega) e2
  obtain ⟨S, _, _, _, _, _, _, b1, b2⟩ := rwB_form (by omega) e2
  rw [← e1] at a1 a3 a4 a5 a6 b1 b2
  exact ⟨a1, a3, a4, a5, b2, a6, b1⟩
theorem ovL_ch {g : Int} {v : List UInt8} {zs : List Int} (h : ovE g v zs = 0) (hs : sgB g = true) {k : Nat} (hk : k < zs.length) : (ovL g v zs).getD k [] = chP g v zs k := by
  unfold ovL
  rw [if_pos h, if_pos hs]
  exact getD_at (chL_at hk)
theorem exA_form {v : List UInt8} {n : Nat} (hn : n ≤ 65535) (h : 16 + v.length ≤ 256 * n) : ∃ S : List UInt8, S.length = 4 ∧ exA v n = (two8 79 3 ++ le8 (n : Int) 2 ++ S) ++ (le8 (v.length : Int) 8 ++ (v ++ List.replicate (256 * n - (16 + v.length)) 0)) := by
  obtain ⟨S, hS, e⟩ := seal4_form (exP0 v n) (by rw [exP0_len h]; omega)
  refine ⟨S, hS, ?_⟩
  unfold exA
  rw [e]
  have hPl : (two8 79 3 ++ le8 (n : Int) 2).length = 4 := by simp [two8, le8_length]
  have hx0 : exP0 v n = (two8 79 3 ++ le8 (n : Int) 2) ++ (le8 0 4 ++ (le8 (v.length : Int) 8 ++ (v ++ List.replicate (256 * n - (16 + v.length)) 0))) := by
    unfold exP0 rwHd
    rw [if_pos (by omega), show (iwI 3).toNat = 8 from rfl]
    simp only [List.append_assoc]
  rw [hx0, List.take_left' hPl, show (8 : Nat) = 4 + 4 from rfl, ← List.drop_drop, List.drop_left' hPl, List.drop_left' (le8_length 0 4)]
  simp only [List.append_assoc]
theorem ex_facts {v : List UInt8} {zs : List Int} (h : ovE 3 v zs = 0) : 16 + v.length ≤ 256 * zs.length := by
  have hf := ov_facts h
  have := ovM_room (m := (v.length : Int)) hf.2.2.1.symm (by omega)
  omega
theorem ovL_ex {v : List UInt8} {zs : List Int} (h : ovE 3 v zs = 0) {k : Nat} (hk : k < zs.length) : (ovL 3 v zs).getD k [] = exP v zs.length k := by
  unfold ovL
  rw [if_pos h, if_neg (by decide)]
  exact getD_at (exL_at hk)
/-- What has an extent's head: whole, and its first page. -/
theorem ex_head {v T X : List UInt8} {n : Nat} {S : List UInt8} (hn : n ≤ 7) (hv : v.length ≤ 1600) (hS : S.length = 4) (e : X = (two8 79 3 ++ le8 (n : Int) 2 ++ S) ++ (le8 (v.length : Int) 8 ++ T)) : hE X = 0 ∧ hG X = 3 ∧ hNx X = (v.length : Int) ∧ X.drop 16 = T := by
  have hf : fitsB (v.length : Int) (iwI 3) = true := by
    unfold fitsB
    rw [show (iwI 3) = 8 from rfl]
    exact decide_eq_true ⟨by decide, by decide, by omega, by rw [show (256 : Int) ^ (8 : Int).toNat = 18446744073709551616 from by decide]; omega⟩
  obtain ⟨a1, _, a3, _, a5, a6⟩ := head_form (k := 79) (g := 3) (ct := (n : Int)) (nx := (v.length : Int)) (S := S) (T := T) (xs := X) (by decide) (by omega) (by omega) hf (by rw [hS]; rfl) e
  exact ⟨a1, a3, a5, a6⟩
end Go.Proofs.Ytbjfklgmbeaaoaa
