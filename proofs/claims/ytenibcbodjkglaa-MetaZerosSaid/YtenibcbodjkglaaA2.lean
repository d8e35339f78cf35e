/- The walk of crc.Update: what it does to a sum, nibble by nibble. -/
import Derived.Test.YtenibcbodjkglaaA1
set_option linter.unusedVariables false
set_option linter.unusedSimpArgs false
namespace Go.Proofs.Ytenibcbodjkglaa
open Go.RowKit

theorem bits32_range (op : BinOp) (a b : Int) : 0 ≤ bits op .u32 a b ∧ bits op .u32 a b ≤ 4294967295 := by
  unfold bits
  simp only [IntKind.wrap_u32]
  omega
theorem and15_range (x : Int) : 0 ≤ bits .and .u32 x 15 ∧ bits .and .u32 x 15 < 16 := by
  have h : bits .and .u32 x 15 = (((BitVec.ofInt 32 x) &&& (BitVec.ofInt 32 15)).toNat : Int) % 4294967296 := by
    unfold bits
    simp only [IntKind.wrap_u32]
    rfl
  rw [h, BitVec.toNat_and]
  have h15 : (BitVec.ofInt 32 15).toNat = 15 := by decide
  rw [h15]
  have := @Nat.and_le_right ((BitVec.ofInt 32 x).toNat) 15
  omega

def nib (c x : Int) : Int := bits .xor .u32 (c / 16) (tab (bits .and .u32 (bits .xor .u32 c x) 15))
def byt (c x : Int) : Int := nib (nib c x) (x / 16)
def updL (c : Int) : List UInt8 → Int
  | [] => c
  | x :: xs => updL (byt c (x.toNat : Int)) xs
theorem updL_snoc (c : Int) (xs : List UInt8) (x : UInt8) : updL c (xs ++ [x]) = byt (updL c xs) (x.toNat : Int) := by
  induction xs generalizing c with
  | nil => rfl
  | cons y ys ih => simp only [List.cons_append, updL]; exact ih _
theorem updL_take (c : Int) (xs : List UInt8) (j : Nat) (h : j < xs.length) : updL c (xs.take (j + 1)) = byt (updL c (xs.take j)) (b8 xs j) := by
  rw [List.take_succ_eq_append_getElem h, updL_snoc]
  simp [b8, List.getD_eq_getElem?_getD, List.getElem?_eq_getElem h]
/-- What Update tells. -/
def updI (s : Int) (xs : List UInt8) : Int := bits .xor .u32 4294967295 (updL (bits .xor .u32 4294967295 s) xs)

theorem tab_cells (w : World) (T : TypeId) (i : Int) (h0 : 0 ≤ i) (h1 : i < 16) : (w.alloc (.cells #[.int .u32 0, .int .u32 274646895, .int .u32 549293790, .int .u32 820201905, .int .u32 1098587580, .int .u32 1361435347, .int .u32 1640403810, .int .u32 1905808397, .int .u32 2197175160, .int .u32 2460548119, .int .u32 2722870694, .int .u32 2987750089, .int .u32 3280807620, .int .u32 3553878443, .int .u32 3811616794, .int .u32 4084100981] T)).cell? ⟨w.heap.size, i.toNat, none⟩ = some (.int .u32 (tab i)) := by
  obtain ⟨k, rfl⟩ := Int.eq_ofNat_of_zero_le h0
  have hk : k < 16 := by omega
  simp only [World.cell?, heap_alloc_new]
  rcases k with _|_|_|_|_|_|_|_|_|_|_|_|_|_|_|_|k <;> first | rfl | omega

theorem max32 : IntKind.u32.max = 4294967295 := by decide
attribute [local go_sem] max32

set_option maxHeartbeats 4000000 in
set_option maxRecDepth 100000 in
theorem update_any (s : Int) (A : Option Addr) (n c : Nat) (xs : List UInt8) (w : World) (hb : Bs w A n c xs) :
    Calls Try.prog 57 #[.int .u32 s, .slice A n c] w fun e w' => e = .returned (.int .u32 (updI s xs)) ∧ Below w.heap.size w w' := by
  have hlim := hb.lim
  have hsg : IntKind.u32.signed = false := rfl
  go_enter Try.func57, Try.ntmps57
  go_wp2_with ((go_at_call 62; refine (table_any _).mono ?_; rintro e w1 ⟨rfl, hb1⟩))
  go_loopg [6, 14] n (fun k cv i wr => ∃ (j : Nat) (cc : Int), Aside (k + j = n ∧ cc = updL (bits .xor .u32 4294967295 s) (xs.take j)) ∧ i = .int .i64 (j : Int) ∧ cv = .int .u32 cc ∧ 0 ≤ cc ∧ cc ≤ 4294967295 ∧ Below w.heap.size w wr ∧ Bs wr A n c xs ∧ ∀ i : Int, 0 ≤ i → i < 16 → wr.cell? ⟨w1.heap.size, i.toNat, none⟩ = some (.int .u32 (tab i)))
  case atStart =>
    have hr := bits32_range .xor 4294967295 s
    exact ⟨0, _, ⟨rfl, by simp [updL]⟩, rfl, rfl, hr.1, hr.2, hb1.alloc hb1.size _, (hb.below hb1).alloc _, tab_cells _ _⟩
  case round =>
    obtain ⟨j, cc, hk, rfl, rfl, hc0, hc1, hB, hbs, ht⟩ := hrel
    by_cases hlt : j < n
    · obtain ⟨ad, rfl, hx⟩ := hbs.atN j hlt
      have hx0 := b8_lo xs j
      have hx1 := b8_hi xs j
      obtain ⟨i0, i1⟩ := and15_range (bits .xor .u32 cc (b8 xs j))
      have t1 := ht _ i0 i1
      obtain ⟨n0, n1⟩ := bits32_range .xor (cc / 16) (tab (bits .and .u32 (bits .xor .u32 cc (b8 xs j)) 15))
      obtain ⟨i2, i3⟩ := and15_range (bits .xor .u32 (bits .xor .u32 (cc / 16) (tab (bits .and .u32 (bits .xor .u32 cc (b8 xs j)) 15))) (b8 xs j / 16))
      have t2 := ht _ i2 i3
      have HT : Aside (∀ i : Int, 0 ≤ i → i < 16 → wr.cell? ⟨w1.heap.size, i.toNat, none⟩ = some (.int .u32 (tab i))) := ht
      clear ht
      go_wp2
      go_roundg (n - (j + 1))
      case measure => have := hk.out.1; omega
      case rel =>
        have hr := bits32_range .xor (nib cc (b8 xs j) / 16) (tab (bits .and .u32 (bits .xor .u32 (nib cc (b8 xs j)) (b8 xs j / 16)) 15))
        refine ⟨j + 1, byt cc (b8 xs j), ⟨by omega, ?_⟩, by go_num, rfl, hr.1, hr.2, hB, hbs, HT.out⟩
        rw [hk.out.2, updL_take _ _ _ (by rw [hbs.len]; exact hlt)]
    · go_wp2
      go_ret
      obtain ⟨h1, rfl⟩ := hk.out
      obtain rfl : j = n := by omega
      refine ⟨?_, hB⟩
      rw [← hb.len, List.take_length]
      rfl
end Go.Proofs.Ytenibcbodjkglaa
