/- Plain laws of FieldWide. -/
import Derived.Test.YtagfljmjdkoehaaDoorT1
import Derived.Test.YtagfljmjdkoehaaDoorZ5
set_option linter.unusedVariables false
set_option linter.unusedSimpArgs false
namespace Go.Proofs.YtagfljmjdkoehaaDoor
open Go.RowKit

theorem leN_snoc (xs : List UInt8) (b : UInt8) : leN (xs ++ [b]) = leN xs + 256 ^ xs.length * b.toNat := by
  induction xs with
  | nil => simp [leN]
  | cons x t ih =>
    simp only [List.cons_append, leN, ih, List.length_cons, Nat.pow_succ]
    rw [Nat.mul_add, Nat.mul_comm (256 ^ t.length) 256, Nat.mul_assoc]
    omega
theorem leN_le8 (n : Nat) (k : Nat) : leN (le8 (n : Int) k) = n % 256 ^ k := by
  induction k with
  | zero => simp [le8, leN, Nat.mod_one]
  | succ k ih =>
    have e : (UInt8.ofNat ((n : Int) / 256 ^ k % 256).toNat).toNat = n / 256 ^ k % 256 := by
      rw [UInt8.toNat_ofNat', show (n : Int) / 256 ^ k % 256 = ((n / 256 ^ k % 256 : Nat) : Int) by rw [Int.natCast_emod, Int.natCast_ediv, Int.natCast_pow]; rfl, Int.toNat_natCast]
      omega
    rw [le8, leN_snoc, le8_length, ih, e, Nat.pow_succ, Nat.mod_mul]
theorem leN_back {n wd : Int} (h : fitsB n wd = true) : (leN (le8 n wd.toNat) : Int) = n := by
  obtain ⟨_, _, h3, h4⟩ := of_decide_eq_true h
  obtain ⟨m, rfl⟩ := Int.eq_ofNat_of_zero_le h3
  rw [leN_le8, Nat.mod_eq_of_lt]
  exact Int.ofNat_lt.1 (by rw [Int.natCast_pow]; exact h4)
theorem le8_more {m wd : Nat} (h : m < 256 ^ wd) : ∀ k, le8 (m : Int) (wd + k) = le8 (m : Int) wd ++ List.replicate k 0
  | 0 => by simp
  | k + 1 => by
    have hlt : m < 256 ^ (wd + k) := Nat.lt_of_lt_of_le h (Nat.pow_le_pow_right (by omega) (by omega))
    have hz : (m : Int) / 256 ^ (wd + k) = 0 := Int.ediv_eq_zero_of_lt (by omega) (by have := Int.ofNat_lt.2 hlt; rwa [Int.natCast_pow] at this)
    rw [← Nat.add_assoc, le8, le8_more h k, hz, List.append_assoc, List.replicate_succ']
    rfl
theorem fits_more {n : Int} {wd mo : Nat} (h : fitsB n (wd : Int) = true) (h1 : wd ≤ mo) (h2 : mo ≤ 8) : fitsB n (mo : Int) = true := by
  obtain ⟨k1, k2, k3, k4⟩ := of_decide_eq_true h
  obtain ⟨m, rfl⟩ := Int.eq_ofNat_of_zero_le k3
  refine decide_eq_true ⟨by omega, by omega, k3, ?_⟩
  rw [Int.toNat_natCast] at k4 ⊢
  have h4 : m < 256 ^ wd := Int.ofNat_lt.1 (by rw [Int.natCast_pow]; exact k4)
  have h5 : m < 256 ^ mo := Nat.lt_of_lt_of_le h4 (Nat.pow_le_pow_right (by omega) h1)
  have := Int.ofNat_lt.2 h5
  rwa [Int.natCast_pow] at this
theorem put_full {n : Int} {wd : Nat} (h : fitsB n (wd : Int) = true) : putS ⟨0, false, List.replicate wd 0⟩ n (wd : Int) = ⟨wd, false, le8 n wd⟩ := by
  unfold putS
  rw [if_pos ⟨h, rfl, by show 0 + (wd : Int).toNat ≤ (List.replicate wd (0 : UInt8)).length; rw [List.length_replicate]; omega⟩, Int.toNat_natCast]
  have e : putL (List.replicate wd 0) (le8 n wd) 0 = le8 n wd := by
    unfold putL
    rw [List.take_zero, List.nil_append, Nat.zero_add, le8_length, List.drop_replicate, Nat.sub_self, List.replicate_zero, List.append_nil]
  show (⟨0 + wd, false, putL (List.replicate wd 0) (le8 n wd) 0⟩ : WS) = _
  rw [e, Nat.zero_add]
theorem Wr.only2 {w W : World} {base g g2 a b c : Nat} {s : WS} (h : Wr w base g g2 c s) (ho : Only2 a b w W) (h1 : g ≠ a ∧ g ≠ b) (h2 : g2 ≠ a ∧ g2 ≠ b) : Wr W base g g2 c s :=
  ⟨⟨(ho.block g (Array.getElem?_eq_some_iff.1 h.cur.row).1 h1.1 h1.2).trans h.cur.row, h.cur.le, h.cur.lim, h.cur.nc⟩,
   h.own.kept fun k q hk => by
     injection q with q
     injection q with q
     subst q
     exact ho.block _ hk h2.1 h2.2, h.ne, h.lo, h.lo2⟩
theorem Bs.only1 {W X : World} {g : Nat} {A : Option Addr} {n c : Nat} {xs : List UInt8} (h : Bs W A n c xs) (ho : OnlyB g W X) (hl : ∀ a, A = some a → 0 < n → a.block < g) : Bs X A n c xs := by
  refine ⟨h.len, h.le, h.cap, h.lim, fun h0 => ?_⟩
  obtain ⟨ad, e, hc⟩ := h.cells h0
  refine ⟨ad, e, fun j hj => ?_⟩
  rw [← hc j hj]
  have hlt := World.block_lt_of_cell? W _ (hc j hj)
  have hne := hl ad e h0
  unfold World.cell?
  rw [ho.block _ hlt (by rw [add_block]; omega)]
end Go.Proofs.YtagfljmjdkoehaaDoor
