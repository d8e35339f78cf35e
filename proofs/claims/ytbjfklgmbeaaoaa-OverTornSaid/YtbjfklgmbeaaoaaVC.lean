/- One bit turned in sealed bytes: plain (after the law of the turned bits of another seat of mine). -/
import Derived.Test.YtbjfklgmbeaaoaaVB
set_option linter.unusedVariables false
set_option linter.unusedSimpArgs false
namespace Go.Proofs.Ytbjfklgmbeaaoaa
open Go.RowKit

theorem dir_xor (l m : List Bool) (h : l.length = m.length) (c d : Nat) : dir (c ^^^ d) (List.zipWith xor l m) = dir c l ^^^ dir d m := by
  induction l generalizing m c d with
  | nil =>
    obtain rfl : m = [] := List.eq_nil_of_length_eq_zero h.symm
    rfl
  | cons x l ih =>
    cases m with
    | nil => simp at h
    | cons y m =>
      simp only [List.zipWith_cons_cons, dir]
      have e : c ^^^ d ^^^ (x ^^ y).toNat = (c ^^^ x.toNat) ^^^ (d ^^^ y.toNat) := by
        have : (x ^^ y).toNat = x.toNat ^^^ y.toNat := by cases x <;> cases y <;> rfl
        rw [this, Nat.xor_assoc, Nat.xor_assoc, ← Nat.xor_assoc d, Nat.xor_comm d x.toNat, Nat.xor_assoc]
      rw [e, st_xor]
      exact ih m (by simpa using h) _ _
theorem bit8_tb (x : Nat) : bit8 (x : Int) = [x.testBit 0, x.testBit 1, x.testBit 2, x.testBit 3, x.testBit 4, x.testBit 5, x.testBit 6, x.testBit 7] := by
  have h : ∀ k : Nat, x.testBit k = (x / 2 ^ k % 2 == 1) := by
    intro k
    rw [Nat.testBit_eq_decide_div_mod_eq]
    rfl
  have e0 : ((x : Int) % 2 == 1) = (x / 2 ^ 0 % 2 == 1) := by rw [Bool.eq_iff_iff]; simp only [beq_iff_eq]; omega
  have e1 : ((x : Int) / 2 % 2 == 1) = (x / 2 ^ 1 % 2 == 1) := by rw [Bool.eq_iff_iff]; simp only [beq_iff_eq]; omega
  have e2 : ((x : Int) / 4 % 2 == 1) = (x / 2 ^ 2 % 2 == 1) := by rw [Bool.eq_iff_iff]; simp only [beq_iff_eq]; omega
  have e3 : ((x : Int) / 8 % 2 == 1) = (x / 2 ^ 3 % 2 == 1) := by rw [Bool.eq_iff_iff]; simp only [beq_iff_eq]; omega
  have e4 : ((x : Int) / 16 % 2 == 1) = (x / 2 ^ 4 % 2 == 1) := by rw [Bool.eq_iff_iff]; simp only [beq_iff_eq]; omega
  have e5 : ((x : Int) / 32 % 2 == 1) = (x / 2 ^ 5 % 2 == 1) := by rw [Bool.eq_iff_iff]; simp only [beq_iff_eq]; omega
  have e6 : ((x : Int) / 64 % 2 == 1) = (x / 2 ^ 6 % 2 == 1) := by rw [Bool.eq_iff_iff]; simp only [beq_iff_eq]; omega
  have e7 : ((x : Int) / 128 % 2 == 1) = (x / 2 ^ 7 % 2 == 1) := by rw [Bool.eq_iff_iff]; simp only [beq_iff_eq]; omega
  unfold bit8
  rw [e0, e1, e2, e3, e4, e5, e6, e7, h 0, h 1, h 2, h 3, h 4, h 5, h 6, h 7]
def stN (j : Nat) (c : Nat) : Nat := match j with
  | 0 => c
  | j + 1 => stN j (st c)
theorem xor0 (a b : Nat) (h : a ^^^ b = 0) : a = b := by
  have e : (a ^^^ b) ^^^ b = a := by rw [Nat.xor_assoc, Nat.xor_self, Nat.xor_zero]
  rw [h, Nat.zero_xor] at e
  exact e.symm
theorem st_ne0 (c : Nat) (h : c ≠ 0) (hc : c < 4294967296) : st c ≠ 0 := by
  unfold st
  split
  · intro e
    have e2 : c / 2 = 2197175160 := xor0 _ _ e
    omega
  · omega
theorem stN_ne0 (j c : Nat) (h : c ≠ 0) (hc : c < 4294967296) : stN j c ≠ 0 := by
  induction j generalizing c with
  | zero => exact h
  | succ j ih => exact ih _ (st_ne0 c h hc) (st_lt c hc)
theorem st0 : st 0 = 0 := rfl
theorem dir_zeros (c m : Nat) : dir c (List.replicate m false) = stN m c := by
  induction m generalizing c with
  | zero => rfl
  | succ m ih => rw [List.replicate_succ, dir, ih, stN, show c ^^^ false.toNat = c from Nat.xor_zero c]
theorem stN_0 (m : Nat) : stN m 0 = 0 := by
  induction m with
  | zero => rfl
  | succ m ih => rw [stN, st0, ih]
theorem set_split (m i : Nat) (h : i < m) : (List.replicate m false).set i true = List.replicate i false ++ true :: List.replicate (m - i - 1) false := by
  rw [List.set_eq_take_append_cons_drop, List.length_replicate, if_pos h, List.take_replicate, List.drop_replicate, Nat.min_eq_left (by omega)]
  congr 2
theorem dir_one (m i : Nat) (h : i < m) : dir 0 ((List.replicate m false).set i true) = stN (m - i) 1 := by
  rw [set_split m i h, dir_append, dir_zeros, stN_0, dir, dir_zeros]
  obtain ⟨d, hd⟩ : ∃ d, m - i = d + 1 := ⟨m - i - 1, by omega⟩
  rw [hd, Nat.add_sub_cancel, stN]
  rfl
theorem bitsL_cons (x : UInt8) (xs : List UInt8) : bitsL (x :: xs) = bit8 (x.toNat : Int) ++ bitsL xs := rfl
theorem bitsL_get (xs : List UInt8) (k : Nat) : (bitsL xs).getD k false = (xs.getD (k / 8) 0).toNat.testBit (k % 8) := by
  induction xs generalizing k with
  | nil => simp [bitsL]
  | cons x xs ih =>
    rw [bitsL_cons, bit8_tb]
    by_cases h : k < 8
    · rw [Nat.div_eq_of_lt h, Nat.mod_eq_of_lt h]
      rcases (show k = 0 ∨ k = 1 ∨ k = 2 ∨ k = 3 ∨ k = 4 ∨ k = 5 ∨ k = 6 ∨ k = 7 by omega) with rfl | rfl | rfl | rfl | rfl | rfl | rfl | rfl <;> rfl
    · obtain ⟨d, rfl⟩ : ∃ d, k = d + 8 := ⟨k - 8, by omega⟩
      have e1 : (d + 8) / 8 = d / 8 + 1 := by omega
      have e2 : (d + 8) % 8 = d % 8 := by omega
      rw [e1, e2, List.getD_cons_succ, ← ih d]
      simp only [List.cons_append, List.nil_append, List.getD_cons_succ]
def flipB (xs : List UInt8) (k : Nat) : List UInt8 := xs.set (k / 8) (xs.getD (k / 8) 0 ^^^ UInt8.ofNat (2 ^ (k % 8)))
theorem flipB_length (xs : List UInt8) (k : Nat) : (flipB xs k).length = xs.length := by simp [flipB]
theorem bitsL_flip (xs : List UInt8) (b : Nat) (hb : b < 8 * xs.length) : bitsL (flipB xs b) = List.zipWith xor (bitsL xs) ((List.replicate (8 * xs.length) false).set b true) := by
  apply List.ext_getElem
  · simp [bitsL_length, flipB_length]
  · intro k h1 h2
    have hk : k < 8 * xs.length := by simpa [bitsL_length, flipB_length] using h1
    have g1 : (bitsL (flipB xs b))[k] = (bitsL (flipB xs b)).getD k false := by simp [List.getD_eq_getElem?_getD, List.getElem?_eq_getElem h1]
    have h3 : k < (bitsL xs).length := by rw [bitsL_length]; exact hk
    have g2 : (bitsL xs)[k] = (bitsL xs).getD k false := by simp [List.getD_eq_getElem?_getD, List.getElem?_eq_getElem h3]
    rw [g1, List.getElem_zipWith, g2, bitsL_get, bitsL_get, List.getElem_set, List.getElem_replicate]
    have hg : (flipB xs b).getD (k / 8) 0 = if k / 8 = b / 8 then xs.getD (b / 8) 0 ^^^ UInt8.ofNat (2 ^ (b % 8)) else xs.getD (k / 8) 0 := by
      unfold flipB
      simp only [List.getD_eq_getElem?_getD, List.getElem?_set]
      by_cases h : k / 8 = b / 8
      · rw [h]; simp [show b / 8 < xs.length by omega]
      · have h' : ¬ b / 8 = k / 8 := fun e => h e.symm
        simp [h, h']
    rw [hg]
    by_cases h : k / 8 = b / 8
    · rw [if_pos h, h, UInt8.toNat_xor, Nat.testBit_xor]
      have hp : (UInt8.ofNat (2 ^ (b % 8))).toNat = 2 ^ (b % 8) := by
        rw [UInt8.toNat_ofNat']
        apply Nat.mod_eq_of_lt
        exact Nat.pow_lt_pow_right (by omega) (Nat.mod_lt _ (by omega))
      rw [hp, Nat.testBit_two_pow]
      have e : (decide (b % 8 = k % 8)) = (if b = k then true else false) := by
        by_cases hk2 : b = k
        · subst hk2; simp
        · rw [if_neg hk2]
          exact decide_eq_false (by omega)
      rw [e]
    · rw [if_neg h, if_neg (show ¬ b = k from fun e => h (by rw [e]))]
      simp

def sumW (L : List Bool) (a : Nat) : Nat := dir 4294967295 (L.take (8 * a) ++ L.drop (8 * a + 32))
theorem bitsL_take (xs : List UInt8) (a : Nat) : bitsL (xs.take a) = (bitsL xs).take (8 * a) := by
  induction a generalizing xs with
  | zero => rfl
  | succ a ih =>
    cases xs with
    | nil => simp [bitsL]
    | cons x xs =>
      rw [List.take_succ_cons, bitsL_cons, bitsL_cons, ih, show 8 * (a + 1) = 8 + 8 * a by omega]
      have : (bit8 (x.toNat : Int)).length = 8 := rfl
      rw [← this, List.take_length_add_append, this]
theorem bitsL_drop (xs : List UInt8) (a : Nat) : bitsL (xs.drop a) = (bitsL xs).drop (8 * a) := by
  induction a generalizing xs with
  | zero => rfl
  | succ a ih =>
    cases xs with
    | nil => simp [bitsL]
    | cons x xs =>
      rw [List.drop_succ_cons, bitsL_cons, ih, show 8 * (a + 1) = 8 + 8 * a by omega]
      have : (bit8 (x.toNat : Int)).length = 8 := rfl
      rw [← this, List.drop_length_add_append, this]
theorem othI_dir (xs : List UInt8) (a : Nat) : othI xs a = ((4294967295 ^^^ sumW (bitsL xs) a : Nat) : Int) := by
  unfold othI sumW
  rw [updI_append]
  have := updI_dir 0 (xs.take a ++ xs.drop (a + 4)) (by omega)
  rw [show ((0 : Nat) : Int) = 0 from rfl] at this
  rw [this, Nat.xor_zero, bitsL_append, bitsL_take, bitsL_drop]
  rfl
theorem seal_bits (xs : List UInt8) (a : Nat) (ha : a + 4 ≤ xs.length) (h : sealB xs (a : Int) = xs) (k : Nat) (hk : k < 32) :
    (bitsL xs).getD (8 * a + k) false = (4294967295 ^^^ sumW (bitsL xs) a).testBit k := by
  have hS : sealB xs (a : Int) = sum4 xs a (othI xs a) := by unfold sealB; rw [if_pos (by omega)]; rfl
  rw [hS, othI_dir] at h
  rw [bitsL_get]
  have hlt : 4294967295 ^^^ sumW (bitsL xs) a < 4294967296 := Nat.xor_lt_two_pow (n := 32) (by omega) (dir_lt _ _ (by omega))
  generalize 4294967295 ^^^ sumW (bitsL xs) a = v at *
  have e1 : (8 * a + k) / 8 = a + k / 8 := by omega
  have e2 : (8 * a + k) % 8 = k % 8 := by omega
  rw [e1, e2]
  have hb : ∀ m : Nat, (byt8 ((m : Nat) : Int)).toNat = m % 256 := by
    intro m
    have := byt8_toNat (m : Int) (by omega)
    omega
  have hg : ∀ i, i < 4 → (xs.getD (a + i) 0).toNat = v / 2 ^ (8 * i) % 256 := by
    intro i hi
    have hx : xs.getD (a + i) 0 = (sum4 xs a (v : Int)).getD (a + i) 0 := by rw [h]
    rw [hx]
    unfold sum4
    have d1 : (v : Int) / 256 = ((v / 256 : Nat) : Int) := by omega
    have d2 : (v : Int) / 65536 = ((v / 65536 : Nat) : Int) := by omega
    have d3 : (v : Int) / 16777216 = ((v / 16777216 : Nat) : Int) := by omega
    have g1 : (byt8 ((v : Int) / 256)).toNat = v / 256 % 256 := by rw [d1]; exact hb _
    have g2 : (byt8 ((v : Int) / 65536)).toNat = v / 65536 % 256 := by rw [d2]; exact hb _
    have g3 : (byt8 ((v : Int) / 16777216)).toNat = v / 16777216 % 256 := by rw [d3]; exact hb _
    simp only [List.getD_eq_getElem?_getD, List.getElem?_set, List.length_set]
    rcases (show i = 0 ∨ i = 1 ∨ i = 2 ∨ i = 3 by omega) with rfl | rfl | rfl | rfl
    · simp [show a < xs.length by omega, hb]
    · simp [show a + 1 < xs.length by omega, g1]
    · simp [show a + 2 < xs.length by omega, g2]
    · simp [show a + 3 < xs.length by omega, g3]
  rw [hg _ (by omega)]
  have e3 : (v / 2 ^ (8 * (k / 8)) % 256).testBit (k % 8) = v.testBit (8 * (k / 8) + k % 8) := by
    have := Nat.testBit_mod_two_pow (v / 2 ^ (8 * (k / 8))) 8 (k % 8)
    rw [show (2 : Nat) ^ 8 = 256 from rfl] at this
    rw [this, Nat.testBit_div_two_pow, decide_eq_true (show k % 8 < 8 by omega), Bool.true_and, Nat.add_comm]
  rw [e3, Nat.div_add_mod]
theorem seal_diff (L D : List Bool) (a : Nat) (hl : L.length = D.length) (ha : 8 * a + 32 ≤ L.length)
    (h1 : ∀ k, k < 32 → L.getD (8 * a + k) false = (4294967295 ^^^ sumW L a).testBit k)
    (h2 : ∀ k, k < 32 → (List.zipWith xor L D).getD (8 * a + k) false = (4294967295 ^^^ sumW (List.zipWith xor L D) a).testBit k) (k : Nat) (hk : k < 32) :
    D.getD (8 * a + k) false = (dir 0 (D.take (8 * a) ++ D.drop (8 * a + 32))).testBit k := by
  have e : sumW (List.zipWith xor L D) a = sumW L a ^^^ dir 0 (D.take (8 * a) ++ D.drop (8 * a + 32)) := by
    unfold sumW
    rw [List.take_zipWith, List.drop_zipWith, ← List.zipWith_append (by rw [List.length_take, List.length_take, hl])]
    have := dir_xor (L.take (8 * a) ++ L.drop (8 * a + 32)) (D.take (8 * a) ++ D.drop (8 * a + 32)) (by simp [hl]) 4294967295 0
    rw [Nat.xor_zero] at this
    exact this
  have g : (List.zipWith xor L D).getD (8 * a + k) false = ((L.getD (8 * a + k) false) ^^ (D.getD (8 * a + k) false)) := by
    have hL : 8 * a + k < L.length := by omega
    have hD : 8 * a + k < D.length := by omega
    simp [List.getD_eq_getElem?_getD, List.getElem?_zipWith, List.getElem?_eq_getElem hL, List.getElem?_eq_getElem hD]
  have k1 := h1 k hk
  have k2 := h2 k hk
  rw [g, k1, e, ← Nat.xor_assoc, Nat.testBit_xor (4294967295 ^^^ sumW L a)] at k2
  clear k1 h1 h2 g e
  generalize (4294967295 ^^^ sumW L a).testBit k = p at k2
  generalize (dir 0 (D.take (8 * a) ++ D.drop (8 * a + 32))).testBit k = q at k2 ⊢
  generalize D.getD (8 * a + k) false = r at k2 ⊢
  revert k2
  cases p <;> cases q <;> cases r <;> decide

theorem zero_of_bits (w : Nat) (hw : w < 4294967296) (h : ∀ k, k < 32 → w.testBit k = false) : w = 0 := by
  apply Nat.eq_of_testBit_eq
  intro k
  rw [Nat.zero_testBit]
  by_cases hk : k < 32
  · exact h k hk
  · exact Nat.testBit_lt_two_pow (Nat.lt_of_lt_of_le hw (by
      calc 4294967296 = 2 ^ 32 := rfl
        _ ≤ 2 ^ k := Nat.pow_le_pow_right (by omega) (by omega)))
theorem one_case (m a b : Nat) (ha : 8 * a + 32 ≤ m) (hb : b < m)
    (h : ∀ k, k < 32 → ((List.replicate m false).set b true).getD (8 * a + k) false = (dir 0 (((List.replicate m false).set b true).take (8 * a) ++ ((List.replicate m false).set b true).drop (8 * a + 32))).testBit k) : False := by
  have hg : ∀ j, j < m → ((List.replicate m false).set b true).getD j false = decide (j = b) := by
    intro j hj
    rw [getD_set _ _ _ _ (by simpa using hb)]
    by_cases e : j = b
    · simp [e]
    · simp [e, List.getD_eq_getElem?_getD, List.getElem?_replicate, hj]
  have hlt : dir 0 (((List.replicate m false).set b true).take (8 * a) ++ ((List.replicate m false).set b true).drop (8 * a + 32)) < 4294967296 := dir_lt _ _ (by omega)
  by_cases h1 : b < 8 * a
  · have hz := zero_of_bits _ hlt (fun k hk => by rw [← h k hk, hg _ (by omega)]; exact decide_eq_false (by omega))
    rw [List.take_set, List.drop_set_of_lt (by omega), List.take_replicate, List.drop_replicate, dir_append, dir_one _ _ (by omega), dir_zeros] at hz
    exact stN_ne0 _ _ (stN_ne0 _ _ (by omega) (by omega)) (by
      rw [← dir_one (min (8 * a) m) b (by omega)]; exact dir_lt _ _ (by omega)) hz
  · by_cases h2 : b < 8 * a + 32
    · have hk := h (b - 8 * a) (by omega)
      rw [hg _ (by omega), decide_eq_true (by omega), List.take_set_of_le (by omega), List.drop_set_of_lt (by omega), List.take_replicate, List.drop_replicate, List.replicate_append_replicate, dir_zeros, stN_0, Nat.zero_testBit] at hk
      cases hk
    · have hz := zero_of_bits _ hlt (fun k hk => by rw [← h k hk, hg _ (by omega)]; exact decide_eq_false (by omega))
      rw [List.take_set_of_le (by omega), List.drop_set, if_neg (by omega), List.take_replicate, List.drop_replicate, dir_append, dir_zeros, stN_0, dir_one _ _ (by omega)] at hz
      exact stN_ne0 _ _ (by omega) (by omega) hz
theorem bit_one (xs : List UInt8) (a b : Nat) (ha : a + 4 ≤ xs.length) (hb : b < 8 * xs.length) (h : sealB xs (a : Int) = xs) : (sealB (flipB xs b) (a : Int) == flipB xs b) = false := by
  rw [beq_eq_false_iff_ne]
  intro h2
  have k1 := seal_bits xs a ha h
  have k2 := seal_bits (flipB xs b) a (by rw [flipB_length]; exact ha) h2
  rw [bitsL_flip xs b hb] at k2
  refine one_case (8 * xs.length) a b (by omega) hb ?_
  exact seal_diff (bitsL xs) _ a (by simp [bitsL_length]) (by rw [bitsL_length]; omega) k1 k2
end Go.Proofs.Ytbjfklgmbeaaoaa
