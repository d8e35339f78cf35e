/- The walk of crc.Update: what it does to a sum, nibble by nibble. -/
import Derived.Test.YtcegphnhohpegaaA1
set_option linter.unusedVariables false
set_option linter.unusedSimpArgs false
namespace Go.Proofs.Ytcegphnhohpegaa
open Go.RowKit

theorem bits32_range (op : BinOp) (a b : Int) : 0 ≤ bits op .u32 a b ∧ bits op .u32 a b ≤ 4294967295 := by
  unfold bits
  simp only [IntKind.wrap_u32]
  omega
theorem and15_range (x : Int) : 0 ≤ bits .and .u32 x 15 ∧ bits .and .u32 x 15 < 16 := by
  have h : bits .and .u32 x 15 = (((BitVec.ofInt 32 x) &&& (BitVec.ofInt 32 15)).toNat : Int) % 4294967296 := by
    unfold bits
    simp only [IntKind.wrap_u32]
    rfl
  rw [h, BitVec.toNat_and]
  have h15 : (BitVec.ofInt 32 15).toNat = 15 := by decide
  rw [h15]
  have := @Nat.and_le_right ((BitVec.ofInt 32 x).toNat) 15
  omega

def nib (c x : Int) : Int := bits .xor .u32 (c / 16) (tab (bits .and .u32 (bits .xor .u32 c x) 15))
def byt (c x : Int) : Int := nib (nib c x) (x / 16)
def updL (c : Int) : List UInt8 → Int
  | [] => c
  | x :: xs => updL (byt c (x.toNat : Int)) xs
theorem updL_snoc (c : Int) (xs : List UInt8) (x : UInt8) : updL c (xs ++ [x]) = byt (updL c xs) (x.toNat : Int) := by
  induction xs generalizing c with
  | nil => rfl
  | cons y ys ih => simp only [List.cons_append, updL]; exact ih _
theorem updL_take (c : Int) (xs : List UInt8) (j : Nat) (h : j < xs.length) : updL c (xs.take (j + 1)) = byt (updL c (xs.take j)) (b8 xs j) := by
  rw [List.take_succ_eq_append_getElem h, updL_snoc]
  simp [b8, List.getD_eq_getElem?_getD, List.getElem?_eq_getElem h]
/-- What Update tells. -/
def updI (s : Int) (xs : List UInt8) : Int := bits .xor .u32 4294967295 (updL (bits .xor .u32 4294967295 s) xs)

theorem tab_cells (w : World) (T : TypeId) (i : Int) (h0 : 0 ≤ i) (h1 : i < 16) : (w.alloc (.cells #[.int .u32 0, .int .u32 274646895, .int .u32 549293790, .int .u32 820201905, .int .u32 1098587580, .int .u32 1361435347, .int .u32 1640403810, .int .u32 1905808397, .int .u32 2197175160, .int .u32 2460548119, .int .u32 2722870694, .int .u32 2987750089, .int .u32 3280807620, .int .u32 3553878443, .int .u32 3811616794, .int .u32 4084100981] T)).cell? ⟨w.heap.size, i.toNat, none⟩ = some (.int .u32 (tab i)) := by
  obtain ⟨k, rfl⟩ := Int.eq_ofNat_of_zero_le h0
  have hk : k < 16 := by omega
  simp only [World.cell?, heap_alloc_new]
  rcases k with _|_|_|_|_|_|_|_|_|_|_|_|_|_|_|_|k <;> first | rfl | omega

theorem max32 : IntKind.u32.max = 4294967295 := by decide
attribute [local go_sem] max32

end Go.Proofs.Ytcegphnhohpegaa
