/- The walks of slices.Clone, slices.Equal, bytes.Equal at bytes, and of crc's small functions. -/
import Derived.Test.YtcegphnhohpegaaA2
set_option linter.unusedVariables false
set_option linter.unusedSimpArgs false
namespace Go.Proofs.Ytcegphnhohpegaa
open Go.RowKit

set_option maxHeartbeats 1000000 in
theorem equal8_any (A : Option Addr) (n c : Nat) (xs : List UInt8) (A' : Option Addr) (n' c' : Nat) (ys : List UInt8) (w : World) (hb : Bs w A n c xs) (hb' : Bs w A' n' c' ys) :
    Calls Try.prog 15 #[.slice A n c, .slice A' n' c'] w fun e w' => e = .returned (.bool (xs == ys)) ∧ w = w' := by
  have h1 := conv8 hb
  have h2 := conv8 hb'
  go_enter Try.func15, Try.ntmps15
  go_wp2
  go_ret
  exact ⟨ret_bool (by simp only [strB_list]), rfl⟩

theorem getD_b8 {xs ys : List UInt8} {j : Nat} (h : b8 xs j = b8 ys j) (h1 : j < xs.length) (h2 : j < ys.length) : xs[j] = ys[j] := by
  simp only [b8, List.getD_eq_getElem?_getD, List.getElem?_eq_getElem h1, List.getElem?_eq_getElem h2, Option.getD_some] at h
  exact UInt8.toNat_inj.mp (by omega)
theorem beq_false_of_b8 {xs ys : List UInt8} {j : Nat} (h : b8 xs j ≠ b8 ys j) : (xs == ys) = false := by
  rw [beq_eq_false_iff_ne]
  rintro rfl
  exact h rfl

end Go.Proofs.Ytcegphnhohpegaa
