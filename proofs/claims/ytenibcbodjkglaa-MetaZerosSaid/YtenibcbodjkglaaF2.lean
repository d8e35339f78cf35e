/- The walks of field's small functions: NewWriter, Done, NewReader, Skip, Err, At, Left, Bytes. -/
import Derived.Test.YtenibcbodjkglaaF1
import Derived.Test.YtenibcbodjkglaaB0
set_option linter.unusedVariables false
set_option linter.unusedSimpArgs false
namespace Go.Proofs.Ytenibcbodjkglaa
open Go.RowKit

/-- How many bytes a new writer has. -/
def nwN (size : Int) : Nat := if 0 ≤ size ∧ size ≤ 65536 then size.toNat else 0
theorem newWriter_post (w : World) (m : Nat) (hm : m ≤ 140737488355328) : ∃ g g2, Ending.returned (.pointer (some ⟨w.heap.size + 1, 0, none⟩)) = .returned (.pointer (some ⟨g, 0, none⟩)) ∧ w.heap.size ≤ g ∧ w.heap.size ≤ g2 ∧ g ≠ g2 ∧
    g < ((w.alloc (.cells (madeCells #[.int .u8 0] m) 5)).alloc (.cells #[.slice (some ⟨w.heap.size, 0, none⟩) m m, .int .i64 0, .bool false] 62)).heap.size ∧
    Cur ((w.alloc (.cells (madeCells #[.int .u8 0] m) 5)).alloc (.cells #[.slice (some ⟨w.heap.size, 0, none⟩) m m, .int .i64 0, .bool false] 62)) g 62 (some ⟨g2, 0, none⟩) m m 0 false ∧
    Ow ((w.alloc (.cells (madeCells #[.int .u8 0] m) 5)).alloc (.cells #[.slice (some ⟨w.heap.size, 0, none⟩) m m, .int .i64 0, .bool false] 62)) w.heap.size (some ⟨g2, 0, none⟩) m m (List.replicate m 0) ∧
    Below w.heap.size w ((w.alloc (.cells (madeCells #[.int .u8 0] m) 5)).alloc (.cells #[.slice (some ⟨w.heap.size, 0, none⟩) m m, .int .i64 0, .bool false] 62)) := by
  refine ⟨w.heap.size + 1, w.heap.size, rfl, by omega, by omega, by omega, by simp, ⟨?_, by omega, hm, Nat.le_refl _⟩, (Ow.made w w.heap.size w.heap.size rfl (Nat.le_refl _) m hm).alloc _, ((Below.refl _ _).alloc (Nat.le_refl _) _).alloc (by simp) _⟩
  have := heap_alloc_new (w.alloc (.cells (madeCells #[.int .u8 0] m) 5)) (.cells #[.slice (some ⟨w.heap.size, 0, none⟩) m m, .int .i64 0, .bool false] 62)
  simpa using this
set_option maxHeartbeats 1000000 in
set_option maxRecDepth 100000 in
theorem newWriter_any (size : Int) (w : World) :
    Calls Try.prog 23 #[.int .i64 size] w fun e w' => ∃ g g2, e = .returned (.pointer (some ⟨g, 0, none⟩)) ∧ w.heap.size ≤ g ∧ w.heap.size ≤ g2 ∧ g ≠ g2 ∧ g < w'.heap.size ∧ Cur w' g 62 (some ⟨g2, 0, none⟩) (nwN size) (nwN size) 0 false ∧ Ow w' w.heap.size (some ⟨g2, 0, none⟩) (nwN size) (nwN size) (List.replicate (nwN size) 0) ∧ Below w.heap.size w w' := by
  by_cases h : 0 ≤ size ∧ size ≤ 65536
  · obtain ⟨m, rfl⟩ := Int.eq_ofNat_of_zero_le h.1
    have hn : nwN (m : Int) = m := by unfold nwN; rw [if_pos h]; omega
    rw [hn]
    have f1 : decide ((m : Int) < 0) = false := decide_eq_false (by omega)
    have f2 : decide (65536 < (m : Int)) = false := decide_eq_false (by omega)
    have hm : m ≤ 65536 := by omega
    have hmk := mk8 m (by omega)
    clear h hn
    go_enter Try.func23, Try.ntmps23
    go_wp2
    go_ret
    exact newWriter_post w m (by omega)
  · have hn : nwN size = 0 := by unfold nwN; rw [if_neg h]
    rw [hn]
    have hmk : ∀ W : World, (Instr.makeSlice 22 (.int .i64 0) (.int .i64 0)).run Try.prog W = .ok (.slice (some ⟨W.heap.size, 0, none⟩) 0 0) (W.alloc (.cells (madeCells #[.int .u8 0] 0) 5)) := mk8 0 (by omega)
    by_cases h1 : size < 0
    · have f1 := decide_eq_true h1
      clear h h1 hn
      go_enter Try.func23, Try.ntmps23
      go_wp2
      go_ret
      exact newWriter_post w 0 (by omega)
    · have f1 := decide_eq_false h1
      have f2 : decide (65536 < size) = true := decide_eq_true (by omega)
      clear h h1 hn
      go_enter Try.func23, Try.ntmps23
      go_wp2
      go_ret
      exact newWriter_post w 0 (by omega)

/-- What Done tells. -/
def doneE (sp : Bool) : Int := if sp = true then 30 else 0
def doneB (sp : Bool) (xs : List UInt8) : List UInt8 := if sp = true then [] else xs
set_option maxHeartbeats 1000000 in
set_option maxRecDepth 100000 in
theorem done_any (g : Nat) (A : Option Addr) (n c a : Nat) (sp : Bool) (xs : List UInt8) (w : World) (h : Cur w g 62 A n c a sp) (hb : Bs w A n c xs) :
    Calls Try.prog 31 #[.pointer (some ⟨g, 0, none⟩)] w fun e w' => ∃ A' c', e = .returned (.tuple #[.slice A' (doneB sp xs).length c', .int .i64 (doneE sp)]) ∧ Ow w' w.heap.size A' (doneB sp xs).length c' (doneB sp xs) ∧ Below w.heap.size w w' := by
  obtain ⟨c0, c1, c2⟩ := h.cells
  have hl := Aside0.mk hb.len
  cases sp with
  | true =>
    go_enter Try.func31, Try.ntmps31
    go_wp2
    go_ret2
    exact ⟨none, 0, rfl, Ow.nil _ _, Below.refl _ _⟩
  | false =>
    go_enter Try.func31, Try.ntmps31
    go_wp2_with (go_at_call 47; refine (clone8_any A n c xs _ hb).mono ?_; rintro e w1 ⟨A1, c1', rfl, hO1, hB1⟩)
    have hl' : (doneB false xs).length = n := hl.out
    go_ret2
    exact ⟨A1, c1', by rw [hl']; rfl, by rw [hl']; exact hO1, hB1⟩

set_option maxHeartbeats 1000000 in
set_option maxRecDepth 100000 in
theorem newReader_any (A : Option Addr) (n c : Nat) (xs : List UInt8) (w : World) (hb : Bs w A n c xs) :
    Calls Try.prog 54 #[.slice A n c] w fun e w' => ∃ g A1 c1, e = .returned (.pointer (some ⟨g, 0, none⟩)) ∧ w.heap.size ≤ g ∧ (∀ ad, A1 = some ad → 0 < n → ad.block ≠ g) ∧ Cur w' g 86 A1 n c1 0 false ∧ Ow w' w.heap.size A1 n c1 xs ∧ Below w.heap.size w w' := by
  have hlim := hb.lim
  go_enter Try.func54, Try.ntmps54
  go_wp2_with (go_at_call 47; refine (clone8_any A n c xs _ hb).mono ?_; rintro e w1 ⟨A1, c1, rfl, hO1, hB1⟩)
  go_ret
  refine ⟨w1.heap.size, A1, c1, rfl, hB1.size, fun ad e hn => ?_, ⟨heap_alloc_new _ _, Nat.zero_le _, hlim, hO1.bs.le⟩, hO1.alloc _, hB1.alloc hB1.size _⟩
  obtain ⟨g, h1, _, h3, _⟩ := hO1.head hn
  rw [h1] at e
  injection e with e
  subst e
  exact (show g ≠ w1.heap.size by omega)
set_option maxHeartbeats 1000000 in
set_option maxRecDepth 100000 in
theorem at_any (g : Nat) (T : TypeId) (A : Option Addr) (n c a : Nat) (sp : Bool) (w : World) (h : Cur w g T A n c a sp) :
    Calls Try.prog 30 #[.pointer (some ⟨g, 0, none⟩)] w fun e w' => e = .returned (.int .i64 (a : Int)) ∧ w = w' := by
  obtain ⟨c0, c1, c2⟩ := h.cells
  go_enter Try.func30, Try.ntmps30
  go_wp2
  go_ret
  exact ⟨rfl, rfl⟩
set_option maxHeartbeats 1000000 in
set_option maxRecDepth 100000 in
theorem skip_any (g : Nat) (T : TypeId) (A : Option Addr) (n c a : Nat) (sp : Bool) (m : Int) (w : World) (h : Cur w g T A n c a sp) :
    Calls Try.prog 29 #[.pointer (some ⟨g, 0, none⟩), .int .i64 m] w fun e w' => e = .returned (.tuple #[]) ∧ OnlyB g w w' ∧ w'.heap.size = w.heap.size ∧
      (((sp = true ∨ m < 0 ∨ (n : Int) - a < m) ∧ Cur w' g T A n c a true) ∨ (sp = false ∧ 0 ≤ m ∧ a + m.toNat ≤ n ∧ Cur w' g T A n c (a + m.toNat) false)) := by
  go_enter Try.func29, Try.ntmps29
  go_wp2_with (go_at_call 44; refine (next_any g T A n c a sp m _ h).mono ?_; rintro e w1 ⟨ho, hs, ⟨hm, rfl, hc⟩ | ⟨h1, h2, h3, rfl, hc⟩⟩)
  · go_end0
    exact ⟨rfl, ho, hs, .inl ⟨hm, hc⟩⟩
  · go_end0
    exact ⟨rfl, ho, hs, .inr ⟨h1, h2, h3, hc⟩⟩
end Go.Proofs.Ytenibcbodjkglaa
