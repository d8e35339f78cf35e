/- Plain laws: zeros over which some sectors of a meta are written. -/
import Derived.Test.YthhalmjapiempaaN9
set_option linter.unusedVariables false
set_option linter.unusedSimpArgs false
namespace Go.Proofs.Ythhalmjapiempaa
open Go.RowKit

/-- Which sectors are kept. -/
def kp (k0 k1 k2 k3 : Bool) : Nat → Bool
  | 0 => k0
  | 1 => k1
  | 2 => k2
  | _ => k3
/-- Zeros, over which the first so many sectors are written, if they are kept. -/
def tz (E : List UInt8) (kb : Nat → Bool) : Nat → List UInt8
  | 0 => List.replicate 256 0
  | j + 1 => if kb j = true then putL (tz E kb j) ((E.drop (64 * j)).take 64) (64 * j) else tz E kb j
theorem seg_len {E : List UInt8} (h : E.length = 256) {j : Nat} (hj : j < 4) : ((E.drop (64 * j)).take 64).length = 64 := by
  rw [List.length_take, List.length_drop]
  omega
theorem tz_len {E : List UInt8} (h : E.length = 256) (kb : Nat → Bool) (j : Nat) (hj : j ≤ 4) : (tz E kb j).length = 256 := by
  induction j with
  | zero => exact List.length_replicate
  | succ j ih =>
    unfold tz
    split
    · rw [putL_length _ _ _ (by rw [ih (by omega), seg_len h (by omega)]; omega)]
      exact ih (by omega)
    · exact ih (by omega)
theorem putL_get (xs ys : List UInt8) (a i : Nat) (h : a + ys.length ≤ xs.length) : (putL xs ys a).getD i 0 = if a ≤ i ∧ i < a + ys.length then ys.getD (i - a) 0 else xs.getD i 0 := by
  unfold putL
  have e1 : (List.take a xs).length = a := by rw [List.length_take]; omega
  simp only [List.getD_eq_getElem?_getD]
  by_cases h1 : i < a
  · rw [if_neg (by omega), List.getElem?_append_left (by omega), List.getElem?_take_of_lt h1]
  · rw [List.getElem?_append_right (by omega), e1]
    by_cases h2 : i < a + ys.length
    · rw [if_pos ⟨by omega, h2⟩, List.getElem?_append_left (by omega)]
    · rw [if_neg (by omega), List.getElem?_append_right (by omega), List.getElem?_drop]
      congr 2
      omega
theorem tz_get {E : List UInt8} (h : E.length = 256) (kb : Nat → Bool) (j : Nat) (hj : j ≤ 4) (i : Nat) (hi : i < 256) : (tz E kb j).getD i 0 = if i / 64 < j ∧ kb (i / 64) = true then E.getD i 0 else 0 := by
  induction j with
  | zero =>
    rw [if_neg (by omega)]
    show (List.replicate 256 (0 : UInt8)).getD i 0 = 0
    rw [List.getD_eq_getElem?_getD, List.getElem?_replicate_of_lt hi]
    rfl
  | succ j ih =>
    have ih := ih (by omega)
    have hl := seg_len h (show j < 4 by omega)
    unfold tz
    by_cases hk : kb j = true
    · rw [if_pos hk, putL_get _ _ _ _ (by rw [tz_len h kb j (by omega), hl]; omega), hl]
      by_cases hin : 64 * j ≤ i ∧ i < 64 * j + 64
      · have hd : i / 64 = j := by omega
        rw [if_pos hin, hd, if_pos ⟨by omega, hk⟩]
        simp only [List.getD_eq_getElem?_getD]
        rw [List.getElem?_take_of_lt (by omega), List.getElem?_drop]
        congr 2
        omega
      · rw [if_neg hin, ih]
        have e : (i / 64 < j ∧ kb (i / 64) = true) ↔ (i / 64 < j + 1 ∧ kb (i / 64) = true) := ⟨fun k => ⟨by omega, k.2⟩, fun k => ⟨by omega, k.2⟩⟩
        simp only [e]
    · rw [if_neg hk, ih]
      have e : (i / 64 < j ∧ kb (i / 64) = true) ↔ (i / 64 < j + 1 ∧ kb (i / 64) = true) := ⟨fun k => ⟨by omega, k.2⟩, fun k => ⟨by
        rcases Nat.lt_or_ge (i / 64) j with q | q
        · exact q
        · rw [show i / 64 = j by omega] at k
          exact absurd k.2 hk, k.2⟩⟩
      simp only [e]
theorem tz_all {E : List UInt8} (h : E.length = 256) (hz : (E.drop 64).take 128 = List.replicate 128 0) {kb : Nat → Bool} (h0 : kb 0 = true) (h3 : kb 3 = true) : tz E kb 4 = E := by
  have hl := tz_len h kb 4 (Nat.le_refl _)
  apply List.ext_getElem?
  intro i
  rcases Nat.lt_or_ge i 256 with hi | hi
  · have hg := tz_get h kb 4 (Nat.le_refl _) i hi
    have hE : (tz E kb 4).getD i 0 = E.getD i 0 := by
      rw [hg]
      by_cases hk : kb (i / 64) = true
      · rw [if_pos ⟨by omega, hk⟩]
      · rw [if_neg (fun q => hk q.2)]
        have hm : 64 ≤ i ∧ i < 192 := by
          rcases (show i / 64 = 0 ∨ i / 64 = 1 ∨ i / 64 = 2 ∨ i / 64 = 3 by omega) with q | q | q | q
          · rw [q] at hk; exact absurd h0 hk
          · omega
          · omega
          · rw [q] at hk; exact absurd h3 hk
        have e : ((E.drop 64).take 128).getD (i - 64) 0 = 0 := by
          rw [hz, List.getD_eq_getElem?_getD, List.getElem?_replicate_of_lt (by omega)]
          rfl
        rw [List.getD_eq_getElem?_getD, List.getElem?_take_of_lt (by omega), List.getElem?_drop, show 64 + (i - 64) = i by omega] at e
        rw [List.getD_eq_getElem?_getD]
        exact e.symm
    rw [List.getD_eq_getElem?_getD, List.getD_eq_getElem?_getD, List.getElem?_eq_getElem (by omega), List.getElem?_eq_getElem (by omega)] at hE
    rw [List.getElem?_eq_getElem (by omega), List.getElem?_eq_getElem (by omega)]
    exact congrArg some hE
  · rw [List.getElem?_eq_none (by omega), List.getElem?_eq_none (by omega)]
theorem tz_none {E : List UInt8} (h : E.length = 256) {kb : Nat → Bool} (hk : kb 0 = false ∨ kb 3 = false) : refE (tz E kb 4) = 90 := by
  unfold refE
  refine if_neg (fun k => ?_)
  rcases hk with hk | hk
  · have hg := tz_get h kb 4 (Nat.le_refl _) 0 (by omega)
    rw [if_neg (fun q => by have := q.2; rw [show 0 / 64 = 0 from rfl, hk] at this; exact Bool.noConfusion this)] at hg
    have e : ((tz E kb 4).take 4).getD 0 0 = (tz E kb 4).getD 0 0 := by
      simp only [List.getD_eq_getElem?_getD]
      rw [List.getElem?_take_of_lt (by omega)]
    rw [k.2.1, hg] at e
    exact absurd e (by decide)
  · have hg := tz_get h kb 4 (Nat.le_refl _) 248 (by omega)
    rw [if_neg (fun q => by have := q.2; rw [show 248 / 64 = 3 from rfl, hk] at this; exact Bool.noConfusion this)] at hg
    have e : (((tz E kb 4).take 252).drop 248).getD 0 0 = (tz E kb 4).getD 248 0 := by
      simp only [List.getD_eq_getElem?_getD]
      rw [List.getElem?_drop, List.getElem?_take_of_lt (by omega)]
    rw [k.2.2, hg] at e
    exact absurd e (by decide)
end Go.Proofs.Ythhalmjapiempaa
