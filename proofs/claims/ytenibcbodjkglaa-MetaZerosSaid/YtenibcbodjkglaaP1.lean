/- The plain law of the sums: what Update reckons is the division's rest. -/
import Derived.Test.YtenibcbodjkglaaA7
set_option linter.unusedVariables false
set_option linter.unusedSimpArgs false
namespace Go.Proofs.Ytenibcbodjkglaa
open Go.RowKit

def st (n : Nat) : Nat := if n % 2 = 1 then n / 2 ^^^ 2197175160 else n / 2
theorem st_bit (n k : Nat) : (st n).testBit k = ((n.testBit (k + 1)) ^^ (n.testBit 0 && Nat.testBit 2197175160 k)) := by
  have h0 : n.testBit 0 = decide (n % 2 = 1) := Nat.testBit_zero n
  unfold st
  by_cases h : n % 2 = 1
  · rw [if_pos h, Nat.testBit_xor, Nat.testBit_div_two, h0]
    simp [h]
  · rw [if_neg h, Nat.testBit_div_two, h0]
    simp [h]
theorem st_xor (a b : Nat) : st (a ^^^ b) = st a ^^^ st b := by
  apply Nat.eq_of_testBit_eq
  intro k
  simp only [st_bit, Nat.testBit_xor]
  cases a.testBit (k + 1) <;> cases b.testBit (k + 1) <;> cases a.testBit 0 <;> cases b.testBit 0 <;> cases Nat.testBit 2197175160 k <;> rfl
theorem st_double (n : Nat) : st (2 * n) = n := by
  unfold st
  rw [if_neg (by omega)]
  omega
theorem st_lt (n : Nat) (h : n < 4294967296) : st n < 4294967296 := by
  unfold st
  split
  · exact Nat.xor_lt_two_pow (n := 32) (by omega) (by omega)
  · omega
def st4 (n : Nat) : Nat := st (st (st (st n)))
theorem st4_xor (a b : Nat) : st4 (a ^^^ b) = st4 a ^^^ st4 b := by simp only [st4, st_xor]
theorem st4_16 (n : Nat) : st4 (16 * n) = n := by
  unfold st4
  have e1 : 16 * n = 2 * (2 * (2 * (2 * n))) := by omega
  rw [e1, st_double, st_double, st_double, st_double]
theorem st4_lt (n : Nat) (h : n < 4294967296) : st4 n < 4294967296 := st_lt _ (st_lt _ (st_lt _ (st_lt _ h)))
theorem split16 (c : Nat) : c = (16 * (c / 16)) ^^^ (c % 16) := by
  have h := Nat.two_pow_add_eq_or_of_lt (i := 4) (b := c % 16) (by omega) (c / 16)
  have e : (16 * (c / 16)) ^^^ (c % 16) = (16 * (c / 16)) ||| (c % 16) := by
    apply Nat.eq_of_testBit_eq
    intro k
    rw [Nat.testBit_xor, Nat.testBit_or]
    have h1 : (c % 16).testBit k = (decide (k < 4) && c.testBit k) := by
      have := Nat.testBit_mod_two_pow c 4 k
      simpa using this
    have h2 : (16 * (c / 16)).testBit k = (decide (4 ≤ k) && (c / 16).testBit (k - 4)) := by
      have := Nat.testBit_two_pow_mul (i := 4) (a := c / 16) (j := k)
      simpa using this
    rw [h1, h2]
    by_cases hk : k < 4
    · have : ¬ 4 ≤ k := by omega
      simp [hk, this]
    · have : 4 ≤ k := by omega
      simp [hk, this]
  rw [e]
  have h' : 2 ^ 4 * (c / 16) + c % 16 = c := by omega
  rw [h'] at h
  exact h
theorem tab_st (i : Nat) (h : i < 16) : tab (i : Int) = (st4 i : Int) := by
  have : ∀ i : Fin 16, tab ((i.val : Nat) : Int) = (st4 i.val : Int) := by decide
  exact this ⟨i, h⟩
theorem bxor (a b : Nat) (ha : a < 4294967296) (hb : b < 4294967296) : bits .xor .u32 (a : Int) (b : Int) = ((a ^^^ b : Nat) : Int) := u32_xor_nat a b ha hb
theorem band15 (a : Nat) (ha : a < 4294967296) : bits .and .u32 (a : Int) 15 = ((a % 16 : Nat) : Int) := by
  have := u32_and_nat a 15 ha (by omega)
  rw [show ((15 : Nat) : Int) = 15 from rfl] at this
  rw [this, nat_mask4]
theorem xor_mod16 (a b : Nat) : (a ^^^ b) % 16 = (a % 16) ^^^ (b % 16) := by
  have := Nat.xor_mod_two_pow (a := a) (b := b) (n := 4)
  simpa using this
theorem nib_nat (c x : Nat) (hc : c < 4294967296) (hx : x < 256) : nib (c : Int) (x : Int) = ((st4 (c ^^^ (x % 16)) : Nat) : Int) := by
  have hcx : c ^^^ x < 4294967296 := Nat.xor_lt_two_pow (n := 32) hc (by omega)
  unfold nib
  rw [bxor c x hc (by omega), band15 _ hcx, tab_st _ (by omega)]
  have e : (c : Int) / 16 = ((c / 16 : Nat) : Int) := by omega
  rw [e, bxor _ _ (by omega) (st4_lt _ (by omega))]
  congr 1
  have h1 : c ^^^ (x % 16) = (16 * (c / 16)) ^^^ ((c ^^^ x) % 16) := by
    have := split16 c
    rw [xor_mod16, ← Nat.xor_assoc, ← this]
  rw [h1, st4_xor, st4_16]
theorem byt_nat (c x : Nat) (hc : c < 4294967296) (hx : x < 256) : byt (c : Int) (x : Int) = ((st4 (st4 (c ^^^ (x % 16)) ^^^ (x / 16)) : Nat) : Int) := by
  have hl : st4 (c ^^^ (x % 16)) < 4294967296 := st4_lt _ (Nat.xor_lt_two_pow (n := 32) hc (by omega))
  unfold byt
  have e : (x : Int) / 16 = ((x / 16 : Nat) : Int) := by omega
  rw [nib_nat c x hc hx, e, nib_nat _ _ hl (by omega)]
  have e2 : x / 16 % 16 = x / 16 := by omega
  rw [e2]

/-- Bit by bit. -/
def dir (c : Nat) : List Bool → Nat
  | [] => c
  | b :: bs => dir (st (c ^^^ b.toNat)) bs
theorem dir_append (c : Nat) (a b : List Bool) : dir c (a ++ b) = dir (dir c a) b := by
  induction a generalizing c with
  | nil => rfl
  | cons x a ih => exact ih _
theorem dir_lt (c : Nat) (l : List Bool) (h : c < 4294967296) : dir c l < 4294967296 := by
  induction l generalizing c with
  | nil => exact h
  | cons b l ih => exact ih _ (st_lt _ (Nat.xor_lt_two_pow (n := 32) h (by cases b <;> decide)))
theorem st_bit1 (c : Nat) (b : Nat) : st (c ^^^ 2 * b) = st c ^^^ b := by rw [st_xor, st_double]
theorem four (c b0 b1 b2 b3 : Nat) (h0 : b0 < 2) (h1 : b1 < 2) (h2 : b2 < 2) (h3 : b3 < 2) :
    st (st (st (st (c ^^^ b0) ^^^ b1) ^^^ b2) ^^^ b3) = st4 (c ^^^ (b0 + 2 * b1 + 4 * b2 + 8 * b3)) := by
  have hb : b0 + 2 * b1 + 4 * b2 + 8 * b3 = b0 ^^^ (2 * b1) ^^^ (2 * (2 * b2)) ^^^ (2 * (2 * (2 * b3))) := by
    have : ∀ a b c d : Fin 2, a.val + 2 * b.val + 4 * c.val + 8 * d.val = a.val ^^^ (2 * b.val) ^^^ (2 * (2 * c.val)) ^^^ (2 * (2 * (2 * d.val))) := by decide
    exact this ⟨b0, h0⟩ ⟨b1, h1⟩ ⟨b2, h2⟩ ⟨b3, h3⟩
  rw [hb, ← Nat.xor_assoc, ← Nat.xor_assoc, ← Nat.xor_assoc]
  unfold st4
  rw [st_bit1, st_bit1, st_bit1, st_bit1, st_bit1, st_bit1]
theorem byt_dir (c x : Nat) (hc : c < 4294967296) (hx : x < 256) : byt (c : Int) (x : Int) = ((dir c (bit8 (x : Int)) : Nat) : Int) := by
  rw [byt_nat c x hc hx]
  congr 1
  have ht : ∀ n : Nat, (n % 2 == 1).toNat = n % 2 := by
    intro n
    rcases Nat.mod_two_eq_zero_or_one n with h | h <;> rw [h] <;> rfl
  have e : bit8 (x : Int) = [x % 2 == 1, x / 2 % 2 == 1, x / 4 % 2 == 1, x / 8 % 2 == 1, x / 16 % 2 == 1, x / 32 % 2 == 1, x / 64 % 2 == 1, x / 128 % 2 == 1] := by
    have e1 : ((x : Int) % 2 == 1) = (x % 2 == 1) := by rw [Bool.eq_iff_iff]; simp only [beq_iff_eq]; omega
    have e2 : ((x : Int) / 2 % 2 == 1) = (x / 2 % 2 == 1) := by rw [Bool.eq_iff_iff]; simp only [beq_iff_eq]; omega
    have e4 : ((x : Int) / 4 % 2 == 1) = (x / 4 % 2 == 1) := by rw [Bool.eq_iff_iff]; simp only [beq_iff_eq]; omega
    have e8 : ((x : Int) / 8 % 2 == 1) = (x / 8 % 2 == 1) := by rw [Bool.eq_iff_iff]; simp only [beq_iff_eq]; omega
    have e16 : ((x : Int) / 16 % 2 == 1) = (x / 16 % 2 == 1) := by rw [Bool.eq_iff_iff]; simp only [beq_iff_eq]; omega
    have e32 : ((x : Int) / 32 % 2 == 1) = (x / 32 % 2 == 1) := by rw [Bool.eq_iff_iff]; simp only [beq_iff_eq]; omega
    have e64 : ((x : Int) / 64 % 2 == 1) = (x / 64 % 2 == 1) := by rw [Bool.eq_iff_iff]; simp only [beq_iff_eq]; omega
    have e128 : ((x : Int) / 128 % 2 == 1) = (x / 128 % 2 == 1) := by rw [Bool.eq_iff_iff]; simp only [beq_iff_eq]; omega
    unfold bit8
    rw [e1, e2, e4, e8, e16, e32, e64, e128]
  rw [e]
  simp only [dir, ht]
  rw [four _ _ _ _ _ (by omega) (by omega) (by omega) (by omega), four _ _ _ _ _ (by omega) (by omega) (by omega) (by omega)]
  have f1 : x % 2 + 2 * (x / 2 % 2) + 4 * (x / 4 % 2) + 8 * (x / 8 % 2) = x % 16 := by omega
  have f2 : x / 16 % 2 + 2 * (x / 32 % 2) + 4 * (x / 64 % 2) + 8 * (x / 128 % 2) = x / 16 := by omega
  rw [f1, f2]
theorem updL_dir (c : Nat) (xs : List UInt8) (hc : c < 4294967296) : updL (c : Int) xs = ((dir c (bitsL xs) : Nat) : Int) := by
  induction xs generalizing c with
  | nil => rfl
  | cons x xs ih =>
    have hx := x.toNat_lt
    rw [updL, byt_dir c _ hc (by omega), ih _ (dir_lt _ _ hc)]
    rw [show bitsL (x :: xs) = bit8 (x.toNat : Int) ++ bitsL xs from rfl, dir_append]
/-- What Update tells, by bits. -/
theorem updI_dir (s : Nat) (xs : List UInt8) (hs : s < 4294967296) : updI (s : Int) xs = ((4294967295 ^^^ dir (4294967295 ^^^ s) (bitsL xs) : Nat) : Int) := by
  have h1 : 4294967295 ^^^ s < 4294967296 := Nat.xor_lt_two_pow (n := 32) (by omega) hs
  unfold updI
  have e : bits .xor .u32 4294967295 (s : Int) = ((4294967295 ^^^ s : Nat) : Int) := bxor 4294967295 s (by omega) hs
  rw [e, updL_dir _ _ h1]
  exact bxor 4294967295 _ (by omega) (dir_lt _ _ h1)
/-! The division -/
theorem getD_set (l : List Bool) (i k : Nat) (x : Bool) (hi : i < l.length) : (l.set i x).getD k false = if k = i then x else l.getD k false := by
  simp only [List.getD_eq_getElem?_getD, List.getElem?_set]
  by_cases h : k = i
  · subst h; simp [hi]
  · have h' : ¬ i = k := fun e => h e.symm
    simp [h, h']
theorem flipAt_get (l : List Bool) (i k : Nat) (hi : i < l.length) : (flipAt l i).getD k false = ((l.getD k false) ^^ decide (k = i)) := by
  unfold flipAt
  rw [getD_set _ _ _ _ hi]
  by_cases h : k = i
  · subst h; simp
  · simp [h]
theorem flipsG_get (i : Nat) (ps : List Nat) (hnd : ps.Nodup) (hp : ∀ p ∈ ps, p ≤ 32) (l : List Bool) (hl : i + 32 < l.length) (k : Nat) :
    (ps.foldl (fun l p => flipAt l (i + 32 - p)) l).getD k false = ((l.getD k false) ^^ decide (∃ p ∈ ps, k = i + 32 - p)) := by
  induction ps generalizing l with
  | nil => simp
  | cons p ps ih =>
    rw [List.nodup_cons] at hnd
    rw [List.foldl_cons, ih hnd.2 (fun q hq => hp q (List.mem_cons_of_mem _ hq)) _ (by rw [flipAt_length]; exact hl), flipAt_get _ _ _ (by omega)]
    have h1 := hp p (List.mem_cons_self)
    by_cases ha : k = i + 32 - p
    · have hn : ¬ ∃ q ∈ ps, k = i + 32 - q := by
        rintro ⟨q, hq, he⟩
        have h2 := hp q (List.mem_cons_of_mem _ hq)
        have : p = q := by omega
        subst this
        exact hnd.1 hq
      have hy : ∃ q ∈ p :: ps, k = i + 32 - q := ⟨p, List.mem_cons_self, ha⟩
      rw [decide_eq_true ha, decide_eq_false hn, decide_eq_true hy]
      simp
    · have he : (∃ q ∈ p :: ps, k = i + 32 - q) ↔ ∃ q ∈ ps, k = i + 32 - q := by
        constructor
        · rintro ⟨q, hq, he⟩
          rcases List.mem_cons.1 hq with rfl | hq
          · exact absurd he ha
          · exact ⟨q, hq, he⟩
        · rintro ⟨q, hq, he⟩
          exact ⟨q, List.mem_cons_of_mem _ hq, he⟩
      have e3 : decide (∃ q ∈ p :: ps, k = i + 32 - q) = decide (∃ q ∈ ps, k = i + 32 - q) := decide_eq_decide.2 he
      rw [decide_eq_false ha, e3]
      simp
theorem pbit (i k : Nat) : decide (∃ p ∈ pwl, i + 1 + k = i + 32 - p) = Nat.testBit 2197175160 k := by
  by_cases hk : k < 32
  · have h : ∀ k : Fin 32, decide (∃ p ∈ pwl, k.val + p = 31) = Nat.testBit 2197175160 k.val := by decide
    rw [← h ⟨k, hk⟩]
    apply decide_eq_decide.2
    constructor
    · rintro ⟨p, hp, he⟩
      exact ⟨p, hp, by show k + p = 31; omega⟩
    · rintro ⟨p, hp, he⟩
      have he' : k + p = 31 := he
      exact ⟨p, hp, by omega⟩
  · have h1 : Nat.testBit 2197175160 k = false := by
      apply Nat.testBit_lt_two_pow
      calc 2197175160 < 2 ^ 32 := by omega
        _ ≤ 2 ^ k := Nat.pow_le_pow_right (by omega) (by omega)
    rw [h1]
    apply decide_eq_false
    rintro ⟨p, hp, he⟩
    omega
theorem stepR_get (l : List Bool) (i k : Nat) (hl : i + 32 < l.length) : (stepR l i).getD (i + 1 + k) false = ((l.getD (i + 1 + k) false) ^^ (l.getD i false && Nat.testBit 2197175160 k)) := by
  unfold stepR
  cases h : l.getD i false with
  | false => simp
  | true =>
    rw [if_pos rfl]
    unfold flips
    rw [show pwl.take 17 = pwl from rfl, flipsG_get i pwl (by decide) (by decide) _ (by rw [List.length_set]; exact hl), getD_set _ _ _ _ (by omega), if_neg (by omega), pbit]
    simp
/-- What the division has come to, step by step. -/
theorem divR_get (m : Nat → Bool) (l : List Bool) (N : Nat) (hl : l.length = N + 32) (h0 : ∀ k, l.getD k false = ((Nat.testBit 4294967295 k) ^^ m k)) (i : Nat) (hi : i ≤ N) (bs : List Bool) (hb : bs.length = i) (hbm : ∀ j, j < i → bs.getD j false = m j) :
    ∀ k, (divR l i).getD (i + k) false = (((dir 4294967295 bs).testBit k) ^^ m (i + k)) := by
  induction i generalizing bs with
  | zero =>
    intro k
    obtain rfl : bs = [] := List.eq_nil_of_length_eq_zero hb
    rw [divR, Nat.zero_add, h0]
    rfl
  | succ i ih =>
    intro k
    obtain ⟨b0, b, rfl⟩ : ∃ b0 b, bs = b0 ++ [b] := by
      refine ⟨bs.take i, bs.getD i false, ?_⟩
      have : bs.take (i + 1) = bs := List.take_of_length_le (by omega)
      rw [← this, List.take_succ_eq_append_getElem (by omega), List.take_append_of_le_length (by simp; omega), List.take_take]
      simp [List.getD_eq_getElem?_getD, List.getElem?_append, List.getElem?_eq_getElem (show i < bs.length by omega), hb]
    have hlen : b0.length = i := by simp at hb; omega
    have hb0 : ∀ j, j < i → b0.getD j false = m j := by
      intro j hj
      rw [← hbm j (by omega)]
      simp [List.getD_eq_getElem?_getD, List.getElem?_append, hlen, hj]
    have hbi : b = m i := by
      rw [← hbm i (by omega)]
      simp [List.getD_eq_getElem?_getD, List.getElem?_append, hlen]
    have ih' := ih (by omega) b0 hlen hb0
    have e1 := ih' (1 + k)
    have e0 := ih' 0
    rw [divR, stepR_get _ _ _ (by rw [divR_length, hl]; omega)]
    rw [Nat.add_zero] at e0
    rw [← Nat.add_assoc] at e1
    rw [e1, e0, dir_append]
    show _ = (((st (dir 4294967295 b0 ^^^ b.toNat)).testBit k) ^^ m (i + 1 + k))
    rw [st_bit, Nat.testBit_xor, Nat.testBit_xor]
    have t0 : b.toNat.testBit 0 = b := by cases b <;> rfl
    have t1 : b.toNat.testBit (k + 1) = false := by
      apply Nat.testBit_lt_two_pow
      have : b.toNat < 2 := by cases b <;> decide
      calc b.toNat < 2 ^ 1 := by omega
        _ ≤ 2 ^ (k + 1) := Nat.pow_le_pow_right (by omega) (by omega)
    rw [t0, t1, ← hbi, Nat.add_comm 1 k]
    cases (dir 4294967295 b0).testBit (k + 1) <;> cases (dir 4294967295 b0).testBit 0 <;> cases m (i + 1 + k) <;> cases b <;> cases Nat.testBit 2197175160 k <;> rfl
theorem flipF_get (l : List Bool) (n k : Nat) (hn : n ≤ l.length) : (flipF l n).getD k false = ((decide (k < n)) ^^ (l.getD k false)) := by
  induction n with
  | zero => simp [flipF]
  | succ n ih =>
    rw [flipF, flipAt_get _ _ _ (by rw [flipF_length]; omega), ih (by omega)]
    by_cases h1 : k = n
    · subst h1; simp
    · by_cases h2 : k < n
      · have : k < n + 1 := by omega
        simp [h1, h2, this]
      · have : ¬ k < n + 1 := by omega
        simp [h1, h2, this]
theorem ones_bit (k : Nat) : Nat.testBit 4294967295 k = decide (k < 32) := by
  have := Nat.testBit_two_pow_sub_one 32 k
  simpa using this
theorem numP_shift (l : List Bool) (q : Nat) (hq : q < 4294967296) (h : ∀ k, k < 32 → l.getD k false = !q.testBit k) (m : Nat) (hm : m ≤ 32) : numP l m = ((q >>> (32 - m) : Nat) : Int) := by
  induction m with
  | zero =>
    rw [numP]
    have : q >>> 32 = 0 := by rw [Nat.shiftRight_eq_div_pow]; omega
    rw [show 32 - 0 = 32 from rfl, this]
    rfl
  | succ m ih =>
    rw [numP, ih (by omega), h (31 - m) (by omega)]
    have e1 : q >>> (32 - m) = (q >>> (31 - m)) / 2 := by rw [show 32 - m = (31 - m) + 1 by omega, Nat.shiftRight_succ]
    have e2 : q.testBit (31 - m) = decide ((q >>> (31 - m)) % 2 = 1) := by rw [Nat.testBit_eq_decide_div_mod_eq, Nat.shiftRight_eq_div_pow]
    have e3 : 32 - (m + 1) = 31 - m := by omega
    have hb : q >>> (31 - m) < 4294967296 := by rw [Nat.shiftRight_eq_div_pow]; exact Nat.lt_of_le_of_lt (Nat.div_le_self _ _) hq
    rw [e1, e2, e3]
    generalize q >>> (31 - m) = a at hb
    rcases Nat.mod_two_eq_zero_or_one a with h2 | h2
    · rw [if_pos (by simp [h2])]
      omega
    · rw [if_neg (by simp [h2])]
      omega
theorem flip_pad (bl : List Bool) (n k : Nat) : (flipF (bl ++ List.replicate n false) n).getD k false = (decide (k < n) ^^ (bl.getD k false)) := by
  rw [flipF_get _ _ _ (by simp)]
  congr 1
  simp only [List.getD_eq_getElem?_getD, List.getElem?_append]
  by_cases h : k < bl.length
  · simp [h]
  · simp only [h, if_false]
    rw [List.getElem?_eq_none (show bl.length ≤ k by omega), List.getElem?_replicate]
    split <;> rfl
theorem numP_core (bl L : List Bool) (hlen : L.length = bl.length + 32) (hm0 : ∀ k, L.getD k false = ((Nat.testBit 4294967295 k) ^^ (bl.getD k false))) :
    numP (restL L) 32 = ((4294967295 ^^^ dir 4294967295 bl : Nat) : Int) := by
  have hlt : dir 4294967295 bl < 4294967296 := dir_lt _ _ (by omega)
  have hq : 4294967295 ^^^ dir 4294967295 bl < 4294967296 := Nat.xor_lt_two_pow (n := 32) (by omega) hlt
  have hg := divR_get (fun k => bl.getD k false) L bl.length hlen hm0 bl.length (Nat.le_refl _) bl rfl (fun _ _ => rfl)
  have hR : ∀ k, k < 32 → (restL L).getD k false = !(4294967295 ^^^ dir 4294967295 bl).testBit k := by
    intro k hk
    have hr : restL L = (divR L bl.length).drop bl.length := by
      unfold restL
      rw [hlen]
      split
      · rw [Nat.add_sub_cancel]
      · have : bl.length = 0 := by omega
        rw [this]; rfl
    rw [hr]
    have e : (List.drop bl.length (divR L bl.length)).getD k false = (divR L bl.length).getD (bl.length + k) false := by
      simp [List.getD_eq_getElem?_getD, List.getElem?_drop]
    rw [e, hg k, Nat.testBit_xor, ones_bit]
    have e2 : bl.getD (bl.length + k) false = false := by
      simp [List.getD_eq_getElem?_getD, List.getElem?_eq_none (show bl.length ≤ bl.length + k by omega)]
    rw [e2]
    simp [hk]
  rw [numP_shift _ _ hq hR 32 (by omega)]
  rfl
/-- The reference's sum is Update's. -/
theorem refOf_dir (xs : List UInt8) : refOf xs = ((4294967295 ^^^ dir 4294967295 (bitsL xs) : Nat) : Int) := by
  unfold refOf
  refine numP_core (bitsL xs) _ ?_ ?_
  · rw [flipF_length, List.length_append, List.length_replicate]
  · intro k
    rw [ones_bit]
    exact flip_pad (bitsL xs) 32 k
theorem refOf_eq (xs : List UInt8) : refOf xs = updI 0 xs := by
  have := updI_dir 0 xs (by omega)
  rw [refOf_dir]
  exact this.symm
theorem bitsL_append (xs ys : List UInt8) : bitsL (xs ++ ys) = bitsL xs ++ bitsL ys := by simp [bitsL]
/-- What comes in parts. -/
theorem updI_append (xs ys : List UInt8) : updI (updI 0 xs) ys = updI 0 (xs ++ ys) := by
  have h1 := updI_dir 0 xs (by omega)
  have h2 := updI_dir 0 (xs ++ ys) (by omega)
  have hlt : dir 4294967295 (bitsL xs) < 4294967296 := dir_lt _ _ (by omega)
  have e0 : ((0 : Nat) : Int) = 0 := rfl
  rw [e0, Nat.xor_zero] at h1 h2
  rw [h1, h2, updI_dir _ _ (Nat.xor_lt_two_pow (n := 32) (by omega) hlt), ← Nat.xor_assoc, Nat.xor_self, Nat.zero_xor, bitsL_append, dir_append]
theorem rsealB_eq (xs : List UInt8) (a : Int) : rsealB xs a = sealB xs a := by
  unfold rsealB sealB
  split
  · rw [refOf_eq, ← updI_append]; rfl
  · rfl

end Go.Proofs.Ytenibcbodjkglaa
