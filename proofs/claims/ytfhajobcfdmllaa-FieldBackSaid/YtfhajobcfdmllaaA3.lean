/- The walks of slices.Clone, slices.Equal, bytes.Equal at bytes, and of crc's small functions. -/
import Derived.Test.YtfhajobcfdmllaaA2
set_option linter.unusedVariables false
set_option linter.unusedSimpArgs false
namespace Go.Proofs.Ytfhajobcfdmllaa
open Go.RowKit

set_option maxHeartbeats 1000000 in
theorem clone8_any (A : Option Addr) (n c : Nat) (xs : List UInt8) (w : World) (hb : Bs w A n c xs) :
    Calls Try.prog 48 #[.slice A n c] w fun e w' => ∃ A' c', e = .returned (.slice A' n c') ∧ Ow w' w.heap.size A' n c' xs ∧ Below w.heap.size w w' := by
  have hlim := hb.lim
  have hnil := fun W => Lib.run_eql_slice_nil (P := Try.prog) W 28 5 A n c 0 0 Try.underlying28
  go_enter Try.func48, Try.ntmps48
  rcases A with _ | ad
  · have h0 : n = 0 := by
      rcases Nat.eq_zero_or_pos n with h | h
      · exact h
      · obtain ⟨ad, h, _⟩ := hb.cells h
        cases h
    subst h0
    obtain rfl : xs = [] := List.eq_nil_of_length_eq_zero hb.len
    go_wp2_with fail
    all_goals (go_ret; exact ⟨none, 0, rfl, Ow.nil _ _, Below.refl _ _⟩)
  · have HO : Ow (w.alloc (.cells #[] 5)) w.heap.size (some ⟨w.heap.size, 0, none⟩) 0 0 [] :=
      ⟨by simpa [u8v] using World.ownsRow_lit (base := w.heap.size) (e := 5) (size := 1) w #[] 0 (Nat.le_refl _) (by simp [maxLen]) (by simp), by omega⟩
    have HO' := Aside0.mk HO
    clear HO
    go_wp2_with (at_builtin; (refine wpl_app8 (w0 := w) w.heap.size rfl _ _ rfl _ 0 0 [] (some ad) n c xs rfl rfl HO'.out (hb.alloc _) ((Below.refl _ _).alloc (Nat.le_refl _) _) (by simp) (by omega) ?_); intro A2 c2 w1 hO hB hg hat)
    go_ret
    simp only [Nat.zero_add, List.nil_append] at hO ⊢
    exact ⟨A2, c2, rfl, hO, hB⟩

set_option maxHeartbeats 1000000 in
theorem equal8_any (A : Option Addr) (n c : Nat) (xs : List UInt8) (A' : Option Addr) (n' c' : Nat) (ys : List UInt8) (w : World) (hb : Bs w A n c xs) (hb' : Bs w A' n' c' ys) :
    Calls Try.prog 25 #[.slice A n c, .slice A' n' c'] w fun e w' => e = .returned (.bool (xs == ys)) ∧ w = w' := by
  have h1 := conv8 hb
  have h2 := conv8 hb'
  go_enter Try.func25, Try.ntmps25
  go_wp2
  go_ret
  exact ⟨ret_bool (by simp only [strB_list]), rfl⟩

theorem getD_b8 {xs ys : List UInt8} {j : Nat} (h : b8 xs j = b8 ys j) (h1 : j < xs.length) (h2 : j < ys.length) : xs[j] = ys[j] := by
  simp only [b8, List.getD_eq_getElem?_getD, List.getElem?_eq_getElem h1, List.getElem?_eq_getElem h2, Option.getD_some] at h
  exact UInt8.toNat_inj.mp (by omega)
theorem beq_false_of_b8 {xs ys : List UInt8} {j : Nat} (h : b8 xs j ≠ b8 ys j) : (xs == ys) = false := by
  rw [beq_eq_false_iff_ne]
  rintro rfl
  exact h rfl

end Go.Proofs.Ytfhajobcfdmllaa
