/- The walks of the reference's sum. -/
import Derived.Test.YtenibcbodjkglaaA4
set_option linter.unusedVariables false
set_option linter.unusedSimpArgs false
namespace Go.Proofs.Ytenibcbodjkglaa
open Go.RowKit

def bit8 (n : Int) : List Bool := [n % 2 == 1, n / 2 % 2 == 1, n / 4 % 2 == 1, n / 8 % 2 == 1, n / 16 % 2 == 1, n / 32 % 2 == 1, n / 64 % 2 == 1, n / 128 % 2 == 1]
def bitsL (xs : List UInt8) : List Bool := (xs.map fun x => bit8 (x.toNat : Int)).flatten
theorem bitsL_snoc (xs : List UInt8) (j : Nat) (h : j < xs.length) : bitsL (xs.take (j + 1)) = bitsL (xs.take j) ++ bit8 (b8 xs j) := by
  have e : b8 xs j = (xs[j].toNat : Int) := by simp [b8, List.getD_eq_getElem?_getD, List.getElem?_eq_getElem h]
  rw [List.take_succ_eq_append_getElem h, e, bitsL, List.map_append, List.flatten_append]
  simp [bitsL]
theorem bitsL_length (xs : List UInt8) : (bitsL xs).length = 8 * xs.length := by
  induction xs with
  | nil => rfl
  | cons x xs ih => simp only [bitsL, List.map_cons, List.flatten_cons, List.length_append, List.length_cons] at ih ⊢; rw [ih]; simp [bit8]; omega

set_option maxHeartbeats 4000000 in
set_option maxRecDepth 100000 in
theorem rbits_any (A : Option Addr) (n c : Nat) (xs : List UInt8) (w : World) (hb : Bs w A n c xs) (hn : n ≤ 100000) :
    Calls Try.prog 59 #[.slice A n c] w fun e w' => ∃ A' c', e = .returned (.slice A' (8 * n) c') ∧ Obl w' w.heap.size A' (8 * n) c' (bitsL xs) ∧ Below w.heap.size w w' := by
  go_enter Try.func59, Try.ntmps59
  go_wp2
  go_loopg [3, 4] n (fun k v i wr => ∃ (j : Nat) (A1 : Option Addr) (c1 : Nat), Aside (k + j = n) ∧ i = .int .i64 (j : Int) ∧ v = .slice A1 (8 * j) c1 ∧ Aside0 (Obl wr w.heap.size A1 (8 * j) c1 (bitsL (xs.take j))) ∧ Aside0 (Below w.heap.size w wr))
  case atStart => exact ⟨0, none, 0, rfl, rfl, rfl, ⟨Obl.nil _ _⟩, ⟨Below.refl _ _⟩⟩
  case round =>
    obtain ⟨j, A1, c1, hk, rfl, rfl, hO, hB⟩ := hrel
    by_cases hlt : j < n
    · obtain ⟨ad, rfl, hx⟩ := (hb.below hB.out).atN j hlt
      have hx0 := b8_lo xs j
      have hx1 := b8_hi xs j
      have hO' := Aside0.mk hO.out.row
      go_wp2_with (first | (with_reducible refine wp_loop_rounds 9 ?_) | (with_reducible rw [rounds_succ]) | (at_builtin; refine wpl_appb (w0 := w) w.heap.size rfl _ _ rfl _ _ _ _ _ rfl rfl hO.out hB.out (by have := hB.out.size; omega) (by omega) ?_; (try clear hx); clear hO hB; intro A2 c2 w2 hO hB; replace hO := Aside0.mk hO; replace hB := Aside0.mk hB))
      go_roundg (n - (j + 1))
      case measure => have := hk.out; omega
      case rel =>
        refine ⟨j + 1, A2, c2, by have := hk.out; exact (show n - (j + 1) + (j + 1) = n by omega), by go_num, rfl, ⟨?_⟩, hB⟩
        have e := hO.out
        have hl : bitsL (xs.take (j + 1)) = bitsL (xs.take j) ++ [b8 xs j % 2 == 1] ++ [b8 xs j / 2 % 2 == 1] ++ [b8 xs j / 2 / 2 % 2 == 1] ++ [b8 xs j / 2 / 2 / 2 % 2 == 1] ++ [b8 xs j / 2 / 2 / 2 / 2 % 2 == 1] ++ [b8 xs j / 2 / 2 / 2 / 2 / 2 % 2 == 1] ++ [b8 xs j / 2 / 2 / 2 / 2 / 2 / 2 % 2 == 1] ++ [b8 xs j / 2 / 2 / 2 / 2 / 2 / 2 / 2 % 2 == 1] := by
          rw [bitsL_snoc xs j (by rw [hb.len]; exact hlt)]
          simp only [bit8, List.append_assoc, List.cons_append, List.nil_append]
          have e1 : b8 xs j / 2 / 2 = b8 xs j / 4 := by omega
          have e2 : b8 xs j / 4 / 2 = b8 xs j / 8 := by omega
          have e3 : b8 xs j / 8 / 2 = b8 xs j / 16 := by omega
          have e4 : b8 xs j / 16 / 2 = b8 xs j / 32 := by omega
          have e5 : b8 xs j / 32 / 2 = b8 xs j / 64 := by omega
          have e6 : b8 xs j / 64 / 2 = b8 xs j / 128 := by omega
          rw [e1, e2, e3, e4, e5, e6]
        rw [hl]
        exact e
    · go_wp2
      go_ret
      obtain rfl : j = n := by have := hk.out; have := hO.out.len; rw [bitsL_length] at this; simp at this; have := hb.len; omega
      refine ⟨A1, c1, rfl, ?_, hB.out⟩
      have e : xs.take j = xs := by rw [← hb.len, List.take_length]
      have := hO.out
      rwa [e] at this
end Go.Proofs.Ytenibcbodjkglaa
