/- The plain law of a writer that begins with noughts; of page's Wrap: program and document say the same. -/
import Derived.Test.YtbjfklgmbeaaoaaK6
set_option linter.unusedVariables false
set_option linter.unusedSimpArgs false
namespace Go.Proofs.Ytbjfklgmbeaaoaa
open Go.RowKit

/-- A writer over noughts, with bytes written so far. -/
def wst (c : Nat) (ys : List UInt8) : WS := ⟨ys.length, false, ys ++ List.replicate (c - ys.length) 0⟩
theorem wst_xs (c : Nat) (ys : List UInt8) (h : ys.length ≤ c) : (wst c ys).xs.length = c := by simp [wst]; omega
theorem putL_wst (c : Nat) (ys zs : List UInt8) (h : ys.length + zs.length ≤ c) : putL (ys ++ List.replicate (c - ys.length) 0) zs ys.length = (ys ++ zs) ++ List.replicate (c - (ys ++ zs).length) 0 := by
  unfold putL
  rw [List.take_left' rfl, List.drop_append, List.drop_eq_nil_of_le (by omega), List.drop_replicate, List.nil_append, List.append_assoc, List.length_append]
  congr 3
  omega
theorem put_wst {c : Nat} {ys : List UInt8} {n wd : Int} (hf : fitsB n wd = true) (h : ys.length + wd.toNat ≤ c) : putS (wst c ys) n wd = wst c (ys ++ le8 n wd.toNat) := by
  unfold putS
  rw [if_pos ⟨hf, rfl, by rw [wst_xs c ys (by omega)]; exact h⟩]
  have := putL_wst c ys (le8 n wd.toNat) (by rw [le8_length]; exact h)
  unfold wst
  rw [this]
  simp [le8_length]
theorem bytes_wst {c : Nat} {ys zs : List UInt8} (h : ys.length + zs.length ≤ c) : bytesS (wst c ys) zs = wst c (ys ++ zs) := by
  unfold bytesS
  rw [wst_xs c ys (by omega), if_pos (by unfold roomB; exact decide_eq_true ⟨rfl, by omega, by show (zs.length : Int) ≤ (c : Int) - ((wst c ys).at_ : Int); show (zs.length : Int) ≤ (c : Int) - ((ys.length : Nat) : Int); omega⟩)]
  have := putL_wst c ys zs h
  unfold wst
  rw [this]
  simp
theorem skip_wst {c : Nat} {ys : List UInt8} (m : Nat) (h : ys.length + m ≤ c) : skipS (wst c ys) (m : Int) = wst c (ys ++ List.replicate m 0) := by
  have hr : roomB (wst c ys).xs.length (wst c ys).at_ (wst c ys).sp (m : Int) = true := by
    rw [wst_xs c ys (by omega)]
    unfold roomB
    exact decide_eq_true ⟨rfl, by omega, by show (m : Int) ≤ (c : Int) - ((ys.length : Nat) : Int); omega⟩
  unfold skipS skA
  rw [hr]
  unfold wst
  simp only [Bool.not_true, if_true, Int.toNat_natCast, List.length_append, List.length_replicate, List.append_assoc, List.replicate_append_replicate]
  congr 3
  omega
theorem put_bad {c : Nat} {ys : List UInt8} {n wd : Int} (hy : ys.length ≤ c) (h : fitsB n wd = false ∨ c < ys.length + wd.toNat) : (putS (wst c ys) n wd).sp = true := by
  unfold putS
  rw [if_neg (fun q => by
    rw [wst_xs c ys hy] at q
    rcases h with h | h
    · rw [h] at q; cases q.1
    · have : ys.length + wd.toNat ≤ c := q.2.2
      omega)]
theorem bytes_bad {c : Nat} {ys zs : List UInt8} (hy : ys.length ≤ c) (h : c < ys.length + zs.length) : (bytesS (wst c ys) zs).sp = true := by
  unfold bytesS
  rw [if_neg (fun q => by
    rw [wst_xs c ys hy] at q
    have : (zs.length : Int) ≤ (c : Int) - ((ys.length : Nat) : Int) := (of_decide_eq_true q).2.2
    omega)]
theorem put_sp {s : WS} {n wd : Int} (h : s.sp = true) : (putS s n wd).sp = true := by
  unfold putS
  rw [if_neg (fun q => by rw [h] at q; cases q.2.1)]
theorem bytes_sp {s : WS} {zs : List UInt8} (h : s.sp = true) : (bytesS s zs).sp = true := by
  unfold bytesS
  rw [if_neg (fun q => by have := (of_decide_eq_true q).1; rw [h] at this; cases this)]
theorem skip_sp {s : WS} {m : Int} (h : s.sp = true) : (skipS s m).sp = true := by
  unfold skipS roomB
  simp [h]
theorem le8_zero (m : Nat) : le8 0 m = List.replicate m 0 := by
  induction m with
  | zero => rfl
  | succ k ih =>
    show le8 0 k ++ [UInt8.ofNat ((0 : Int) / 256 ^ k % 256).toNat] = _
    rw [ih, Int.zero_ediv, List.replicate_succ']
    rfl
theorem wr0_eq : wr0 = wst 256 [] := rfl
theorem known_in {k g : Int} (h : knownB k g = true) : (k = 76 ∨ k = 66 ∨ k = 79 ∨ k = 70) ∧ 1 ≤ g ∧ g ≤ 3 := by
  by_cases hk : k = 76 ∨ k = 66 ∨ k = 79 ∨ k = 70
  · rw [known_yes hk] at h
    exact ⟨hk, of_decide_eq_true h⟩
  · rw [known_no hk] at h
    cases h
theorem hd_len (k g ct nx : Int) (h : 1 ≤ g ∧ g ≤ 3) : (rwHd k g ct nx).length = (hdI g).toNat ∧ (cpI g).toNat + (hdI g).toNat = 256 ∧ (cpI g).toNat = cpI g := by
  unfold rwHd two8
  rcases (show g = 1 ∨ g = 2 ∨ g = 3 by omega) with rfl | rfl | rfl <;> simp [le8_length] <;> decide
theorem fits_iw {g nx : Int} (h : 1 ≤ g ∧ g ≤ 3) (hx : nx ≤ 9223372036854775807) : fitsB nx (iwI g) = true ↔ 0 ≤ nx ∧ ¬(g = 1 ∧ 4294967295 < nx) := by
  unfold fitsB
  rcases (show g = 1 ∨ g = 2 ∨ g = 3 by omega) with rfl | rfl | rfl
  · rw [show iwI 1 = 4 from rfl, decide_eq_true_iff, show (256 : Int) ^ (4 : Int).toNat = 4294967296 from by decide]
    omega
  · rw [show iwI 2 = 8 from rfl, decide_eq_true_iff, show (256 : Int) ^ (8 : Int).toNat = 18446744073709551616 from by decide]
    omega
  · rw [show iwI 3 = 8 from rfl, decide_eq_true_iff, show (256 : Int) ^ (8 : Int).toNat = 18446744073709551616 from by decide]
    omega
theorem wrW_ok {k g ct nx : Int} {ys : List UInt8} (hk : knownB k g = true) (hb : ¬ rwBad g ct nx ys.length) (hx : nx ≤ 9223372036854775807) : wrW k g ct nx ys = wst 256 (rwHd k g ct nx ++ ys) := by
  obtain ⟨hk1, hg⟩ := known_in hk
  have hl := hd_len k g ct nx hg
  unfold rwBad at hb
  have f1 : fitsB k 1 = true := by unfold fitsB; rw [show (256 : Int) ^ (1 : Int).toNat = 256 from by decide]; exact decide_eq_true (by omega)
  have f2 : fitsB g 1 = true := by unfold fitsB; rw [show (256 : Int) ^ (1 : Int).toNat = 256 from by decide]; exact decide_eq_true (by omega)
  have f3 : fitsB ct 2 = true := by unfold fitsB; rw [show (256 : Int) ^ (2 : Int).toNat = 65536 from by decide]; exact decide_eq_true (by omega)
  have f4 : fitsB nx (iwI g) = true := (fits_iw hg hx).2 (by omega)
  have e3 : wrW3 k g ct = wst 256 (two8 k g ++ le8 ct 2) := by
    unfold wrW3
    rw [wr0_eq, put_wst f1 (by decide), put_wst f2 (by simp [le8_length]), put_wst f3 (by simp [le8_length])]
    rfl
  have e4 : wrW4 k g ct = wst 256 ((two8 k g ++ le8 ct 2) ++ (if 1 < g then le8 0 4 else [])) := by
    unfold wrW4
    rw [e3]
    split
    · rw [show (4 : Int) = ((4 : Nat) : Int) from rfl, skip_wst 4 (by simp [two8, le8_length]), le8_zero]
    · rw [List.append_nil]
  have hiw : (iwI g).toNat ≤ 8 := by rcases iw_in hg with h | h <;> rw [h] <;> decide
  unfold wrW
  rw [e4, put_wst f4 (by
    have : ((two8 k g ++ le8 ct 2) ++ (if 1 < g then le8 0 4 else [])).length ≤ 8 := by split <;> simp [two8, le8_length]
    omega)]
  exact bytes_wst (by
    show (rwHd k g ct nx).length + _ ≤ _
    omega)
theorem wrW_bad {k g ct nx : Int} {ys : List UInt8} (hk : knownB k g = true) (hb : rwBad g ct nx ys.length) (hx : nx ≤ 9223372036854775807) : (wrW k g ct nx ys).sp = true := by
  obtain ⟨hk1, hg⟩ := known_in hk
  have hl := hd_len k g ct nx hg
  unfold rwBad at hb
  have f1 : fitsB k 1 = true := by unfold fitsB; rw [show (256 : Int) ^ (1 : Int).toNat = 256 from by decide]; exact decide_eq_true (by omega)
  have f2 : fitsB g 1 = true := by unfold fitsB; rw [show (256 : Int) ^ (1 : Int).toNat = 256 from by decide]; exact decide_eq_true (by omega)
  have e2 : putS (putS wr0 k 1) g 1 = wst 256 (two8 k g) := by
    rw [wr0_eq, put_wst f1 (by decide), put_wst f2 (by simp [le8_length])]
    rfl
  cases f3 : fitsB ct 2 with
  | false =>
    have h3 : (wrW3 k g ct).sp = true := by
      unfold wrW3
      rw [e2]
      exact put_bad (by simp [two8, le8_length]) (.inl f3)
    unfold wrW
    refine bytes_sp (put_sp ?_)
    unfold wrW4
    split
    · exact skip_sp h3
    · exact h3
  | true =>
    have hct : 0 ≤ ct ∧ ct ≤ 65535 := by
      unfold fitsB at f3
      rw [show (256 : Int) ^ (2 : Int).toNat = 65536 from by decide] at f3
      have := of_decide_eq_true f3
      omega
    have e3 : wrW3 k g ct = wst 256 (two8 k g ++ le8 ct 2) := by
      unfold wrW3
      rw [e2, put_wst f3 (by simp [two8, le8_length])]
      rfl
    have e4 : wrW4 k g ct = wst 256 ((two8 k g ++ le8 ct 2) ++ (if 1 < g then le8 0 4 else [])) := by
      unfold wrW4
      rw [e3]
      split
      · rw [show (4 : Int) = ((4 : Nat) : Int) from rfl, skip_wst 4 (by simp [two8, le8_length]), le8_zero]
      · rw [List.append_nil]
    have hl4 : ((two8 k g ++ le8 ct 2) ++ (if 1 < g then le8 0 4 else [])).length ≤ 8 := by split <;> simp [two8, le8_length]
    have hiw : (iwI g).toNat ≤ 8 := by rcases iw_in hg with h | h <;> rw [h] <;> decide
    unfold wrW
    rw [e4]
    cases f4 : fitsB nx (iwI g) with
    | false => exact bytes_sp (put_bad (by omega) (.inl f4))
    | true =>
      have hnx := (fits_iw hg hx).1 f4
      rw [put_wst f4 (by omega)]
      refine bytes_bad (by show (rwHd k g ct nx).length ≤ _; omega) ?_
      show 256 < (rwHd k g ct nx).length + _
      omega
theorem wrE_eq {k g ct nx : Int} {ys : List UInt8} (hx : nx ≤ 9223372036854775807) : wrE k g ct nx ys = rwE k g ct nx ys.length := by
  unfold wrE rwE
  cases hk : knownB k g with
  | false => rfl
  | true =>
    simp only [if_true]
    by_cases hb : rwBad g ct nx ys.length
    · rw [if_pos hb, if_pos (wrW_bad hk hb hx)]
    · rw [if_neg hb, wrW_ok hk hb hx]
      rfl
theorem wrB_eq {k g ct nx : Int} {ys : List UInt8} (hx : nx ≤ 9223372036854775807) : wrB k g ct nx ys = rwB k g ct nx ys := by
  unfold wrB rwB
  rw [wrE_eq hx]
  by_cases h : rwE k g ct nx ys.length = 0
  · rw [if_pos h, if_pos h]
    have hk : knownB k g = true := by
      cases hk : knownB k g with
      | true => rfl
      | false => unfold rwE at h; rw [hk] at h; cases h
    have hb : ¬ rwBad g ct nx ys.length := fun hb => by unfold rwE at h; rw [hk, if_pos rfl, if_pos hb] at h; cases h
    rw [wrW_ok hk hb hx, rsealB_eq]
    rfl
  · rw [if_neg h, if_neg h]
end Go.Proofs.Ytbjfklgmbeaaoaa
