/- The plain law of what was put and is got. -/
import Derived.Test.YtenibcbodjkglaaO2
import Derived.Test.YtenibcbodjkglaaG3
set_option linter.unusedVariables false
set_option linter.unusedSimpArgs false
namespace Go.Proofs.Ytenibcbodjkglaa
open Go.RowKit

theorem leN_snoc (xs : List UInt8) (b : UInt8) : leN (xs ++ [b]) = leN xs + 256 ^ xs.length * b.toNat := by
  induction xs with
  | nil => simp [leN]
  | cons x t ih =>
    simp only [List.cons_append, leN, ih, List.length_cons, Nat.pow_succ]
    rw [Nat.mul_add, Nat.mul_comm (256 ^ t.length) 256, Nat.mul_assoc]
    omega
theorem leN_le8 (n : Nat) (k : Nat) : leN (le8 (n : Int) k) = n % 256 ^ k := by
  induction k with
  | zero => simp [le8, leN, Nat.mod_one]
  | succ k ih =>
    have e : (UInt8.ofNat ((n : Int) / 256 ^ k % 256).toNat).toNat = n / 256 ^ k % 256 := by
      rw [UInt8.toNat_ofNat', show (n : Int) / 256 ^ k % 256 = ((n / 256 ^ k % 256 : Nat) : Int) by rw [Int.natCast_emod, Int.natCast_ediv, Int.natCast_pow]; rfl, Int.toNat_natCast]
      omega
    rw [le8, leN_snoc, le8_length, ih, e, Nat.pow_succ, Nat.mod_mul]
theorem leN_back {n wd : Int} (h : fitsB n wd = true) : (leN (le8 n wd.toNat) : Int) = n := by
  obtain ⟨_, _, h3, h4⟩ := of_decide_eq_true h
  obtain ⟨m, rfl⟩ := Int.eq_ofNat_of_zero_le h3
  rw [leN_le8, Nat.mod_eq_of_lt]
  exact Int.ofNat_lt.1 (by rw [Int.natCast_pow]; exact h4)
/-- What one call writes. -/
def encO (o : OpV) : List UInt8 := if o.k = 0 then (if fitsB o.n o.wd = true then le8 o.n o.wd.toNat else []) else if o.k = 1 then o.ys else []
def encs (l : List OpV) : Nat → List UInt8
  | 0 => []
  | j + 1 => encs l j ++ encO (l.getD j ⟨0, 0, 0, []⟩)
theorem encO_len (o : OpV) : (encO o).length ≤ 8 + o.ys.length := by
  unfold encO
  split
  · split
    · rename_i h
      obtain ⟨_, h2, _, _⟩ := of_decide_eq_true h
      rw [le8_length]
      omega
    · simp
  · split
    · omega
    · simp
def tot (l : List OpV) : Nat → Nat
  | 0 => 0
  | k + 1 => tot l k + (l.getD k ⟨0, 0, 0, []⟩).ys.length
theorem encs_len (l : List OpV) (j : Nat) : (encs l j).length ≤ 8 * j + tot l j := by
  induction j with
  | zero => simp [encs, tot]
  | succ j ih =>
    have := encO_len (l.getD j ⟨0, 0, 0, []⟩)
    simp only [encs, tot, List.length_append]
    omega
theorem encs_mono (l : List OpV) {i j : Nat} (h : i ≤ j) : ∃ t, encs l j = encs l i ++ t := by
  induction j with
  | zero =>
    obtain rfl : i = 0 := by omega
    exact ⟨[], by simp⟩
  | succ j ih =>
    rcases Nat.lt_or_ge i (j + 1) with hlt | hge
    · obtain ⟨t, ht⟩ := ih (by omega)
      exact ⟨t ++ encO (l.getD j ⟨0, 0, 0, []⟩), by rw [encs, ht, List.append_assoc]⟩
    · obtain rfl : i = j + 1 := by omega
      exact ⟨[], by simp⟩
theorem totW_tot (l : List OpV) (hl : ∀ j, (l.getD j ⟨0, 0, 0, []⟩).ys.length ≤ 140737488355328) (k : Nat) (hk : k ≤ 100) : totW l k = (tot l k : Int) ∧ tot l k ≤ k * 140737488355328 := by
  induction k with
  | zero => simp [totW, tot]
  | succ k ih =>
    obtain ⟨h1, h2⟩ := ih (by omega)
    have h3 := hl k
    have h4 : tot l k + (l.getD k ⟨0, 0, 0, []⟩).ys.length ≤ (k + 1) * 140737488355328 := by rw [Nat.add_mul]; omega
    refine ⟨?_, h4⟩
    simp only [totW, tot, h1]
    unfold wrap64
    have : (k + 1) * 140737488355328 ≤ 100 * 140737488355328 := Nat.mul_le_mul_right _ (by omega)
    omega
theorem Ops.ysLe {w : World} {A : Option Addr} {n c : Nat} {l : List OpV} (h : Ops w A n c l) (j : Nat) : (l.getD j ⟨0, 0, 0, []⟩).ys.length ≤ 140737488355328 := by
  by_cases hj : j < n
  · obtain ⟨_, _, B, m, d, ho⟩ := h.atN j hj
    rw [ho.row.len]
    exact ho.row.lim
  · rw [List.getD_eq_getElem?_getD, List.getElem?_eq_none (by rw [h.len]; omega)]
    simp
/-- What a writer of so many bytes is behind so many calls. -/
def backS (l : List OpV) (j : Nat) : WS := ⟨(encs l j).length, false, putL (List.replicate 16384 0) (encs l j) 0⟩
theorem putL_two (z e t : List UInt8) (h : e.length + t.length ≤ z.length) : putL (putL z e 0) t e.length = putL z (e ++ t) 0 := by
  unfold putL
  simp only [List.take_zero, List.nil_append, Nat.zero_add, List.length_append]
  rw [List.take_left, List.drop_append, List.drop_of_length_le (by omega), List.nil_append, List.drop_drop, List.append_assoc]
  congr 3
  omega
theorem back_put (l : List OpV) (j : Nat) (t : List UInt8) (h : (encs l j).length + t.length ≤ 16384) :
    putL (backS l j).xs t (backS l j).at_ = putL (List.replicate 16384 0) (encs l j ++ t) 0 := putL_two _ _ _ (by rw [List.length_replicate]; exact h)
theorem backS_len (l : List OpV) (j : Nat) (h : (encs l j).length ≤ 16384) : (backS l j).xs.length = 16384 := by
  unfold backS
  dsimp only
  rw [putL_length _ _ _ (by rw [List.length_replicate, Nat.zero_add]; exact h), List.length_replicate]
theorem back_drop (l : List OpV) (j n : Nat) (hj : j < n) (h : (encs l n).length ≤ 16384) :
    ((backS l n).xs.drop (encs l j).length).take (encO (l.getD j ⟨0, 0, 0, []⟩)).length = encO (l.getD j ⟨0, 0, 0, []⟩) ∧ (encs l j).length + (encO (l.getD j ⟨0, 0, 0, []⟩)).length ≤ (encs l n).length := by
  obtain ⟨t, ht⟩ := encs_mono l (show j + 1 ≤ n by omega)
  rw [encs] at ht
  constructor
  · unfold backS putL
    simp only [List.take_zero, List.nil_append, Nat.zero_add]
    rw [ht, List.append_assoc, List.append_assoc, List.drop_left, List.append_assoc, List.take_left]
  · rw [ht]
    simp
theorem encs_le (l : List OpV) {i j : Nat} (h : i ≤ j) : (encs l i).length ≤ (encs l j).length := by
  obtain ⟨t, ht⟩ := encs_mono l h
  rw [ht, List.length_append]
  omega
theorem back_none (l : List OpV) (j : Nat) (h : encO (l.getD j ⟨0, 0, 0, []⟩) = []) : backS l (j + 1) = backS l j := by
  unfold backS
  rw [encs, h, List.append_nil]
theorem back_some (l : List OpV) (j : Nat) (t : List UInt8) (h : encO (l.getD j ⟨0, 0, 0, []⟩) = t) (hb : (encs l (j + 1)).length ≤ 16384) : (⟨(backS l j).at_ + t.length, false, putL (backS l j).xs t (backS l j).at_⟩ : WS) = backS l (j + 1) := by
  have hl : (encs l j).length + t.length ≤ 16384 := by rw [encs, h, List.length_append] at hb; exact hb
  rw [back_put l j t hl]
  unfold backS
  rw [encs, h, List.length_append]
theorem back_putS (l : List OpV) (j : Nat) (o : OpV) (ho : l.getD j ⟨0, 0, 0, []⟩ = o) (h0 : o.k = 0) (hf : fitsB o.n o.wd = true) (hb : (encs l (j + 1)).length ≤ 16384) : putS (backS l j) o.n o.wd = backS l (j + 1) := by
  have he : encO (l.getD j ⟨0, 0, 0, []⟩) = le8 o.n o.wd.toNat := by rw [ho]; unfold encO; rw [if_pos h0, if_pos hf]
  rw [← back_some l j _ he hb, le8_length]
  have hj := encs_le l (Nat.le_succ j)
  have hl : (encs l j).length + o.wd.toNat ≤ 16384 := by rw [encs, he, List.length_append, le8_length] at hb; exact hb
  unfold putS
  exact if_pos ⟨hf, rfl, by rw [backS_len l j (by omega)]; exact hl⟩
theorem back_bytesS (l : List OpV) (j : Nat) (o : OpV) (ho : l.getD j ⟨0, 0, 0, []⟩ = o) (h1 : o.k = 1) (hb : (encs l (j + 1)).length ≤ 16384) : bytesS (backS l j) o.ys = backS l (j + 1) := by
  have he : encO (l.getD j ⟨0, 0, 0, []⟩) = o.ys := by rw [ho]; unfold encO; rw [if_neg (by omega), if_pos h1]
  rw [← back_some l j _ he hb]
  have hj := encs_le l (Nat.le_succ j)
  have hl : (encs l j).length + o.ys.length ≤ 16384 := by rw [encs, he, List.length_append] at hb; exact hb
  unfold bytesS
  rw [if_pos (show roomB (backS l j).xs.length (backS l j).at_ (backS l j).sp o.ys.length = true from decide_eq_true ⟨rfl, by omega, ?_⟩)]
  rw [backS_len l j (by omega)]
  show (o.ys.length : Int) ≤ (16384 : Nat) - ((encs l j).length : Int)
  omega
end Go.Proofs.Ytenibcbodjkglaa
