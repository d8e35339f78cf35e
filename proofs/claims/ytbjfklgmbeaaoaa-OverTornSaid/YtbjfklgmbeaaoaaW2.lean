/- The plain law of a page's head: what Wrap writes is read as it was. -/
import Derived.Test.YtbjfklgmbeaaoaaW1
set_option linter.unusedVariables false
set_option linter.unusedSimpArgs false
namespace Go.Proofs.Ytbjfklgmbeaaoaa
open Go.RowKit

theorem sum4_take (xs : List UInt8) (a : Nat) (s : Int) : (sum4 xs a s).take a = xs.take a := by
  unfold sum4
  rw [List.take_set_of_le (by omega), List.take_set_of_le (by omega), List.take_set_of_le (by omega), List.take_set_of_le (by omega)]
theorem sum4_drop (xs : List UInt8) (a : Nat) (s : Int) : (sum4 xs a s).drop (a + 4) = xs.drop (a + 4) := by
  unfold sum4
  rw [List.drop_set_of_lt (by omega), List.drop_set_of_lt (by omega), List.drop_set_of_lt (by omega), List.drop_set_of_lt (by omega)]
theorem sum4_again (xs : List UInt8) (a : Nat) (s : Int) : sum4 (sum4 xs a s) a s = sum4 xs a s := by
  apply List.ext_getElem?
  intro i
  simp only [sum4, List.getElem?_set, List.length_set]
  by_cases h3 : a + 3 = i
  · simp [h3]
  · by_cases h2 : a + 2 = i
    · simp [h3, h2]
    · by_cases h1 : a + 1 = i
      · simp [h3, h2, h1]
      · by_cases h0 : a = i
        · simp [h3, h2, h1, h0]
        · simp [h3, h2, h1, h0]
theorem sealB_again (xs : List UInt8) (a : Int) : sealB (sealB xs a) a = sealB xs a := by
  by_cases h : 0 ≤ a ∧ a ≤ (xs.length : Int) - 4
  · have e : sealB xs a = sum4 xs a.toNat (othI xs a.toNat) := by unfold sealB; rw [if_pos h]
    have hl := sealB_length xs a
    have e2 : sealB (sealB xs a) a = sum4 (sealB xs a) a.toNat (othI (sealB xs a) a.toNat) := by
      rw [sealB, hl, if_pos h]
    rw [e2, e]
    unfold othI
    rw [sum4_take, sum4_drop, sum4_again]
  · have e : sealB xs a = xs := by unfold sealB; rw [if_neg h]
    rw [e, e]
/-- A seal at 4: four bytes of its own, the others as they were. -/
theorem seal4_form (xs : List UInt8) (h : 8 ≤ xs.length) : ∃ s4 : List UInt8, s4.length = 4 ∧ sealB xs 4 = xs.take 4 ++ (s4 ++ xs.drop 8) := by
  have e : sealB xs 4 = sum4 xs 4 (othI xs 4) := by unfold sealB; rw [if_pos ⟨by omega, by omega⟩]; rfl
  have hl := sealB_length xs 4
  refine ⟨((sealB xs 4).drop 4).take 4, by rw [List.length_take, List.length_drop, hl]; omega, ?_⟩
  have h1 : (sealB xs 4).take 4 = xs.take 4 := by rw [e]; exact sum4_take xs 4 _
  have h2 : (sealB xs 4).drop 8 = xs.drop 8 := by rw [e]; exact sum4_drop xs 4 _
  rw [← h1, ← h2, show (sealB xs 4).drop 8 = ((sealB xs 4).drop 4).drop 4 by rw [List.drop_drop], List.take_append_drop, List.take_append_drop]
theorem known_b {k : Int} (h : k = 76 ∨ k = 66 ∨ k = 79 ∨ k = 70) : (((UInt8.ofNat (k / 256 ^ 0 % 256).toNat).toNat : Nat) : Int) = k := by
  rcases h with rfl | rfl | rfl | rfl <;> decide
theorem gen_b {g : Int} (h : 1 ≤ g ∧ g ≤ 3) : (((UInt8.ofNat (g / 256 ^ 0 % 256).toNat).toNat : Nat) : Int) = g := by
  rcases (show g = 1 ∨ g = 2 ∨ g = 3 by omega) with rfl | rfl | rfl <;> decide
/-- What has a head's form is read as that head. -/
theorem head_form {k g ct nx : Int} {S T xs : List UInt8} (hk : knownB k g = true) (hc : 0 ≤ ct ∧ ct ≤ 65535) (hx : nx ≤ 9223372036854775807) (hf : fitsB nx (iwI g) = true) (hS : S.length = if 1 < g then 4 else 0)
    (e : xs = (two8 k g ++ le8 ct 2 ++ S) ++ (le8 nx (iwI g).toNat ++ T)) : hE xs = 0 ∧ hK xs = k ∧ hG xs = g ∧ hC xs = ct ∧ hNx xs = nx ∧ xs.drop (hdI g).toNat = T := by
  obtain ⟨hk1, hg⟩ := known_in hk
  have h0 : hK xs = k := by
    rw [e]
    exact known_b hk1
  have h1 : hG xs = g := by
    rw [e]
    exact gen_b hg
  have f2 : fitsB ct 2 = true := by unfold fitsB; rw [show (256 : Int) ^ (2 : Int).toNat = 65536 from by decide]; exact decide_eq_true (by omega)
  have hl2 : (two8 k g).length = 2 := by simp [two8, le8_length]
  have h2 : hC xs = ct := by
    unfold hC
    rw [e, List.append_assoc, List.append_assoc, List.drop_left' hl2, List.take_left' (le8_length ct 2)]
    exact leN_back f2
  have hfr : hFr xs = (two8 k g ++ le8 ct 2 ++ S).length := by
    unfold hFr
    rw [h1, List.length_append, List.length_append, hl2, le8_length, hS]
    split <;> rfl
  have h3 : hNx xs = nx := by
    unfold hNx
    rw [hfr, h1, e, List.drop_left' rfl, List.take_left' (le8_length _ _)]
    exact leN_back hf
  have hiw := iw_in hg
  refine ⟨?_, h0, h1, h2, h3, ?_⟩
  · unfold hE
    have hlen : 4 ≤ xs.length := by rw [e, List.length_append, List.length_append, List.length_append, hl2, le8_length]; omega
    rw [if_pos ⟨hlen, by rw [h0, h1]; exact hk⟩, if_pos ⟨by
      have hL : xs.length = (two8 k g ++ le8 ct 2 ++ S).length + (le8 nx (iwI g).toNat ++ T).length := by rw [e]; exact List.length_append
      have hL2 : (le8 nx (iwI g).toNat ++ T).length = (iwI g).toNat + T.length := by rw [List.length_append, le8_length]
      rw [hfr, h1]
      omega, by rw [h3]; exact hx⟩]
  · rw [e, ← List.append_assoc]
    refine List.drop_left' ?_
    rw [List.length_append, List.length_append, List.length_append, hl2, le8_length, le8_length, hS]
    rcases (show g = 1 ∨ g = 2 ∨ g = 3 by omega) with rfl | rfl | rfl <;> rfl
theorem pre_cons (a b : List UInt8) (x : Nat) (h : a.length = x) : (a ++ b).take x = a ∧ (a ++ b).drop x = b := ⟨List.take_left' h, List.drop_left' h⟩
/-- What Wrap gives, in parts. -/
theorem rwB_form {k g ct nx : Int} {ys : List UInt8} (hx : nx ≤ 9223372036854775807) (h : rwE k g ct nx ys.length = 0) :
    ∃ S : List UInt8, knownB k g = true ∧ (0 ≤ ct ∧ ct ≤ 65535) ∧ fitsB nx (iwI g) = true ∧ (ys.length : Int) ≤ cpI g ∧ S.length = (if 1 < g then 4 else 0) ∧ rwB k g ct nx ys = (two8 k g ++ le8 ct 2 ++ S) ++ (le8 nx (iwI g).toNat ++ (ys ++ List.replicate ((cpI g).toNat - ys.length) 0)) ∧ (1 < g → sealB (rwB k g ct nx ys) 4 = rwB k g ct nx ys) ∧ (rwB k g ct nx ys).length = 256 := by
  have hk : knownB k g = true := by
    cases hk : knownB k g with
    | true => rfl
    | false => unfold rwE at h; rw [hk] at h; cases h
  have hb : ¬ rwBad g ct nx ys.length := fun hb => by unfold rwE at h; rw [hk, if_pos rfl, if_pos hb] at h; cases h
  obtain ⟨hk1, hg⟩ := known_in hk
  have hl := hd_len k g ct nx hg
  have hb2 := hb
  unfold rwBad at hb2
  have f4 : fitsB nx (iwI g) = true := (fits_iw hg hx).2 (by omega)
  have hz : 256 - (rwHd k g ct nx ++ ys).length = (cpI g).toNat - ys.length := by rw [List.length_append]; omega
  have hP : rwP k g ct nx ys = (two8 k g ++ le8 ct 2 ++ (if 1 < g then le8 0 4 else [])) ++ (le8 nx (iwI g).toNat ++ (ys ++ List.replicate ((cpI g).toNat - ys.length) 0)) := by
    unfold rwP
    rw [hz]
    unfold rwHd
    simp only [List.append_assoc]
  have hPl : (rwP k g ct nx ys).length = 256 := by
    unfold rwP
    rw [List.length_append, List.length_replicate, List.length_append]
    omega
  have hB : rwB k g ct nx ys = if 1 < g then sealB (rwP k g ct nx ys) 4 else rwP k g ct nx ys := by
    unfold rwB
    rw [if_pos h, rsealB_eq]
  by_cases h1 : 1 < g
  · rw [if_pos h1] at hB hP
    obtain ⟨s4, hs4, he⟩ := seal4_form (rwP k g ct nx ys) (by omega)
    refine ⟨s4, hk, by omega, f4, by omega, by rw [hs4, if_pos h1], ?_, fun _ => by rw [hB, sealB_again], by rw [hB, sealB_length, hPl]⟩
    rw [hB, he, hP]
    have hl4 : (two8 k g ++ le8 ct 2).length = 4 := by simp [two8, le8_length]
    have hl8 : (two8 k g ++ le8 ct 2 ++ le8 0 4).length = 8 := by simp [two8, le8_length]
    rw [(pre_cons _ _ 8 hl8).2, List.append_assoc (two8 k g ++ le8 ct 2) (le8 0 4), (pre_cons _ _ 4 hl4).1]
    simp only [List.append_assoc]
  · rw [if_neg h1] at hB hP
    exact ⟨[], hk, by omega, f4, by omega, by rw [if_neg h1]; rfl, by rw [hB, hP], fun q => absurd q h1, by rw [hB, hPl]⟩
/-- The head of what Wrap gives, and its body. -/
theorem wrap_back {k g ct nx : Int} {ys : List UInt8} (hx : nx ≤ 9223372036854775807) (h : rwE k g ct nx ys.length = 0) :
    hE (rwB k g ct nx ys) = 0 ∧ hK (rwB k g ct nx ys) = k ∧ hG (rwB k g ct nx ys) = g ∧ hC (rwB k g ct nx ys) = ct ∧ hNx (rwB k g ct nx ys) = nx ∧ bodyL (rwB k g ct nx ys) = ys ++ List.replicate ((cpI g).toNat - ys.length) 0 := by
  obtain ⟨S, hk, hc, hf, hl, hS, e, _, hlen⟩ := rwB_form hx h
  obtain ⟨a1, a2, a3, a4, a5, a6⟩ := head_form hk hc hx hf hS e
  refine ⟨a1, a2, a3, a4, a5, ?_⟩
  unfold bodyL
  rw [if_pos ⟨a1, hlen⟩, a3]
  exact a6
theorem wrap_V {k g ct nx : Int} {ys : List UInt8} (hx : nx ≤ 9223372036854775807) (h : rwE k g ct nx ys.length = 0) : hV (rwB k g ct nx ys) = #[.int .i64 k, .int .i64 g, .int .i64 ct, .int .i64 nx] := by
  obtain ⟨a1, a2, a3, a4, a5, _⟩ := wrap_back hx h
  unfold hV
  rw [if_pos a1, a2, a3, a4, a5]
end Go.Proofs.Ytbjfklgmbeaaoaa
