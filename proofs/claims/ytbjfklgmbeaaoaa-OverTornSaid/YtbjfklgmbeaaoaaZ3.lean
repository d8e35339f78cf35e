/- The cursor of field: its place in memory, and next. The walks of field's small functions: NewWriter, Done, NewReader, Skip, Err, At, Left, Bytes. The walks of field.Fits and of the reference's. The walk of a writer's Put. The walks of Bytes: a writer's, a reader's. -/
import Derived.Test.YtbjfklgmbeaaoaaZ1
import Derived.RegionTactic
import Derived.BigRegion
set_option linter.unusedVariables false
set_option linter.unusedSimpArgs false
namespace Go.Proofs.Ytbjfklgmbeaaoaa
open Go.RowKit

/-! Worlds of which one block alone has turned -/
structure OnlyB (g : Nat) (w W : World) : Prop where
  os : W.os = w.os
  tape : W.tape = w.tape
  output : W.output = w.output
  size : w.heap.size ≤ W.heap.size
  block : ∀ i, i < w.heap.size → i ≠ g → W.heap[i]? = w.heap[i]?
theorem OnlyB.refl (g : Nat) (w : World) : OnlyB g w w := ⟨rfl, rfl, rfl, Nat.le_refl _, fun _ _ _ => rfl⟩
theorem OnlyB.set {g : Nat} {w W : World} (h : OnlyB g w W) (j : Nat) (v : Value) : OnlyB g w (W.setCell ⟨g, j, none⟩ v) := by
  have hb := (Below.refl g W).setCell (p := ⟨g, j, none⟩) (Nat.le_refl _) v
  exact ⟨hb.os.trans h.os, hb.tape.trans h.tape, hb.output.trans h.output, Nat.le_trans h.size hb.size, fun i hi hne => (Below.heap_setCell _ _ _ _ hne).trans (h.block i hi hne)⟩
theorem OnlyB.drew {g : Nat} {w W : World} (h : OnlyB g w W) : OnlyB g w W.drew := ⟨h.os, h.tape, h.output, h.size, h.block⟩
theorem OnlyB.below {g base : Nat} {w0 w W : World} (h : OnlyB g w W) (hB : Below base w0 w) (hg : base ≤ g) (hs : base ≤ w0.heap.size) : Below base w0 W :=
  ⟨h.os.trans hB.os, h.tape.trans hB.tape, h.output.trans hB.output, Nat.le_trans hB.size h.size, fun i hi => (h.block i (by have := hB.size; omega) (by omega)).trans (hB.block i hi)⟩
theorem OnlyB.cell {g : Nat} {w W : World} (h : OnlyB g w W) {a : Addr} {v : Value} (hne : a.block ≠ g) (hc : w.cell? a = some v) : W.cell? a = some v := by
  rw [← hc]
  exact World.cell?_of_block (h.block _ (World.block_lt_of_cell? w a hc) hne)
theorem add_block (ad : Addr) (i : Nat) : (ad.add i).block = ad.block := by unfold Addr.add; split <;> rfl
theorem Bs.only {g : Nat} {w W : World} {A : Option Addr} {n c : Nat} {xs : List UInt8} (h : Bs w A n c xs) (ho : OnlyB g w W) (hne : ∀ ad, A = some ad → 0 < n → ad.block ≠ g) : Bs W A n c xs :=
  ⟨h.len, h.le, h.cap, h.lim, fun hn => by
    obtain ⟨ad, e, hc⟩ := h.cells hn
    exact ⟨ad, e, fun i hi => ho.cell (by rw [add_block]; exact hne ad e hn) (hc i hi)⟩⟩
theorem Bs.lt {w : World} {A : Option Addr} {n c : Nat} {xs : List UInt8} (h : Bs w A n c xs) : ∀ ad, A = some ad → 0 < n → ad.block < w.heap.size := by
  intro ad e hn
  obtain ⟨ad', e', hc⟩ := h.cells hn
  rw [e] at e'
  injection e' with e'
  subst e'
  have := World.block_lt_of_cell? w _ (hc 0 hn)
  rwa [add_block] at this
/-- A cursor's block: bytes, a place, and whether it is spoiled. -/
structure Cur (W : World) (g : Nat) (T : TypeId) (A : Option Addr) (n c : Nat) (at_ : Nat) (sp : Bool) : Prop where
  row : W.heap[g]? = some (.cells #[.slice A n c, .int .i64 (at_ : Int), .bool sp] T)
  le : at_ ≤ n
  lim : n ≤ 140737488355328
  nc : n ≤ c
theorem Cur.cells {W : World} {g : Nat} {T : TypeId} {A : Option Addr} {n c a : Nat} {sp : Bool} (h : Cur W g T A n c a sp) :
    W.cell? ⟨g, 0, none⟩ = some (.slice A n c) ∧ W.cell? ⟨g, 1, none⟩ = some (.int .i64 (a : Int)) ∧ W.cell? ⟨g, 2, none⟩ = some (.bool sp) :=
  ⟨by rw [cell_of_row _ _ _ _ _ _ h.row]; rfl, by rw [cell_of_row _ _ _ _ _ _ h.row]; rfl, by rw [cell_of_row _ _ _ _ _ _ h.row]; rfl⟩
theorem Cur.thaw {W : World} {g : Nat} {T : TypeId} {A : Option Addr} {n c a : Nat} {sp : Bool} (h : Cur W g T A n c a sp) (j : Nat) : W.frozen? ⟨g, j, none⟩ = false := by simp [World.frozen?, h.row]

set_option maxHeartbeats 1000000 in
set_option maxRecDepth 100000 in
theorem next_no (g : Nat) (T : TypeId) (A : Option Addr) (n c a : Nat) (sp : Bool) (m : Int) (w : World) (h : Cur w g T A n c a sp) (hm : sp = true ∨ m < 0 ∨ (n : Int) - a < m) :
    Calls Try.prog 97 #[.pointer (some ⟨g, 0, none⟩), .int .i64 m] w fun e w' => e = .returned (.slice none 0 0) ∧ ∃ k, w' = (w.drewN k).setCell ⟨g, 2, none⟩ (.bool true) := by
  obtain ⟨c0, c1, c2⟩ := h.cells
  have t0 := h.thaw
  have hle := h.le
  have hlim := h.lim
  cases sp with
  | true =>
    clear hm
    go_enter Try.func97, Try.ntmps97
    go_wp2
    go_quiet (fail)
    go_wp2
    go_ret
    exact ⟨rfl, _, rfl⟩
  | false =>
    by_cases h1 : m < 0
    · have f1 := decide_eq_true h1
      clear hm
      go_enter Try.func97, Try.ntmps97
      go_wp2
      go_quiet (fail)
      go_wp2
      go_ret
      exact ⟨rfl, _, rfl⟩
    have f1 := decide_eq_false h1
    have h2 : (n : Int) - a < m := by
      rcases hm with hm | hm | hm
      · cases hm
      · exact absurd hm h1
      · exact hm
    have f2 := decide_eq_true h2
    clear hm h1 h2
    go_enter Try.func97, Try.ntmps97
    go_wp2
    go_quiet (fail)
    go_wp2
    go_ret
    exact ⟨rfl, _, rfl⟩

set_option maxHeartbeats 1000000 in
set_option maxRecDepth 100000 in
theorem next_ok (g : Nat) (T : TypeId) (A : Option Addr) (n c a : Nat) (m : Nat) (w : World) (h : Cur w g T A n c a false) (hm : a + m ≤ n) :
    Calls Try.prog 97 #[.pointer (some ⟨g, 0, none⟩), .int .i64 (m : Int)] w fun e w' => e = .returned (.slice (cutA A c a) m (c - a)) ∧ ∃ j k, w' = ((w.drewN j).setCell ⟨g, 1, none⟩ (.int .i64 ((a : Int) + (m : Int)))).drewN k := by
  obtain ⟨c0, c1, c2⟩ := h.cells
  have t0 := h.thaw
  have hle := h.le
  have hlim := h.lim
  have hnc := h.nc
  have f1 : decide ((m : Int) < 0) = false := decide_eq_false (by omega)
  have f2 : decide ((n : Int) - a < (m : Int)) = false := decide_eq_false (by omega)
  have s1 : ∀ W : World, (Instr.slice 27 (.slice A n c) (some (.int .i64 (a : Int))) (some (.int .i64 ((a : Int) + (m : Int)))) none).run Try.prog W = .ok (.slice (cutA A c a) m (c - a)) W := fun W => by
    rw [sl8_lh W A n c .i64 .i64 (a : Int) ((a : Int) + (m : Int)) (by omega) (by omega) (by omega), show ((a : Int) + (m : Int)).toNat - (a : Int).toNat = m by omega, Int.toNat_natCast]
  have hcc := Int.add_sub_cancel (a : Int) (m : Int)
  go_enter Try.func97, Try.ntmps97
  go_wp2
  go_quiet (fail)
  go_wp2
  go_quiet (fail)
  go_wp2
  go_ret
  exact ⟨rfl, _, _, rfl⟩

theorem set_size (w : World) (a : Addr) (v : Value) : (w.setCell a v).heap.size = w.heap.size := by simp
theorem OnlyB.drewN {g : Nat} {w W : World} (h : OnlyB g w W) (k : Nat) : OnlyB g w (W.drewN k) := ⟨h.os, h.tape, h.output, h.size, h.block⟩
theorem OnlyB.trans {g : Nat} {w W X : World} (h : OnlyB g w W) (k : OnlyB g W X) : OnlyB g w X :=
  ⟨k.os.trans h.os, k.tape.trans h.tape, k.output.trans h.output, Nat.le_trans h.size k.size, fun i hi hne => (k.block i (Nat.lt_of_lt_of_le hi h.size) hne).trans (h.block i hi hne)⟩
theorem OnlyB.of_below {g : Nat} {w W : World} (h : Below w.heap.size w W) : OnlyB g w W := ⟨h.os, h.tape, h.output, h.size, fun i hi _ => h.block i hi⟩
theorem Cur.below {w W : World} {g : Nat} {T : TypeId} {A : Option Addr} {n c a : Nat} {sp : Bool} (h : Cur w g T A n c a sp) (hB : Below w.heap.size w W) : Cur W g T A n c a sp :=
  ⟨by rw [hB.block g (Array.getElem?_eq_some_iff.1 h.row).1]; exact h.row, h.le, h.lim, h.nc⟩
theorem Cur.only {w W : World} {g k : Nat} {T : TypeId} {A : Option Addr} {n c a : Nat} {sp : Bool} (h : Cur w g T A n c a sp) (ho : OnlyB k w W) (hne : g ≠ k) : Cur W g T A n c a sp :=
  ⟨by rw [ho.block g (Array.getElem?_eq_some_iff.1 h.row).1 hne]; exact h.row, h.le, h.lim, h.nc⟩
theorem Cur.spoil {w : World} {g : Nat} {T : TypeId} {A : Option Addr} {n c a : Nat} {sp : Bool} (h : Cur w g T A n c a sp) (k : Nat) : Cur ((w.drewN k).setCell ⟨g, 2, none⟩ (.bool true)) g T A n c a true :=
  ⟨by rw [heap_setCell_same (w.drewN k) g 2 _ _ _ h.row]; rfl, h.le, h.lim, h.nc⟩
theorem Cur.go {w : World} {g : Nat} {T : TypeId} {A : Option Addr} {n c a m : Nat} {sp : Bool} (h : Cur w g T A n c a sp) (hm : a + m ≤ n) (j k : Nat) : Cur (((w.drewN j).setCell ⟨g, 1, none⟩ (.int .i64 ((a : Int) + (m : Int)))).drewN k) g T A n c (a + m) sp :=
  ⟨by
    have := heap_setCell_same (w.drewN j) g 1 _ _ (.int .i64 ((a : Int) + (m : Int))) h.row
    refine Eq.trans this ?_
    rw [Int.natCast_add]
    rfl, hm, h.lim, h.nc⟩
/-- next, whole: where there is no room the cursor is spoiled; else it goes on. -/
theorem next_any (g : Nat) (T : TypeId) (A : Option Addr) (n c a : Nat) (sp : Bool) (m : Int) (w : World) (h : Cur w g T A n c a sp) :
    Calls Try.prog 97 #[.pointer (some ⟨g, 0, none⟩), .int .i64 m] w fun e w' => OnlyB g w w' ∧ w'.heap.size = w.heap.size ∧
      (((sp = true ∨ m < 0 ∨ (n : Int) - a < m) ∧ e = .returned (.slice none 0 0) ∧ Cur w' g T A n c a true) ∨
       (sp = false ∧ 0 ≤ m ∧ a + m.toNat ≤ n ∧ e = .returned (.slice (cutA A c a) m.toNat (c - a)) ∧ Cur w' g T A n c (a + m.toNat) false)) := by
  by_cases hm : sp = true ∨ m < 0 ∨ (n : Int) - a < m
  · refine (next_no g T A n c a sp m w h hm).mono ?_
    rintro e w' ⟨rfl, k, rfl⟩
    exact ⟨((OnlyB.refl g w).drewN k).set 2 _, set_size .. , .inl ⟨hm, rfl, h.spoil k⟩⟩
  · have h1 : sp = false := by cases sp; rfl; exact absurd (.inl rfl) hm
    subst h1
    have h2 : 0 ≤ m := by omega
    obtain ⟨m, rfl⟩ := Int.eq_ofNat_of_zero_le h2
    have h3 : a + m ≤ n := by have := h.le; omega
    refine (next_ok g T A n c a m w h h3).mono ?_
    rintro e w' ⟨rfl, j, k, rfl⟩
    exact ⟨(((OnlyB.refl g w).drewN j).set 1 _).drewN k, set_size .. , .inr ⟨rfl, h2, h3, rfl, h.go h3 j k⟩⟩

end Go.Proofs.Ytbjfklgmbeaaoaa

set_option linter.unusedVariables false
set_option linter.unusedSimpArgs false
namespace Go.Proofs.Ytbjfklgmbeaaoaa
open Go.RowKit

/-- How many bytes a new writer has. -/
def nwN (size : Int) : Nat := if 0 ≤ size ∧ size ≤ 65536 then size.toNat else 0
theorem newWriter_post (w : World) (m : Nat) (hm : m ≤ 140737488355328) : ∃ g g2, Ending.returned (.pointer (some ⟨w.heap.size + 1, 0, none⟩)) = .returned (.pointer (some ⟨g, 0, none⟩)) ∧ w.heap.size ≤ g ∧ w.heap.size ≤ g2 ∧ g ≠ g2 ∧
    g < ((w.alloc (.cells (madeCells #[.int .u8 0] m) 5)).alloc (.cells #[.slice (some ⟨w.heap.size, 0, none⟩) m m, .int .i64 0, .bool false] 134)).heap.size ∧
    Cur ((w.alloc (.cells (madeCells #[.int .u8 0] m) 5)).alloc (.cells #[.slice (some ⟨w.heap.size, 0, none⟩) m m, .int .i64 0, .bool false] 134)) g 134 (some ⟨g2, 0, none⟩) m m 0 false ∧
    Ow ((w.alloc (.cells (madeCells #[.int .u8 0] m) 5)).alloc (.cells #[.slice (some ⟨w.heap.size, 0, none⟩) m m, .int .i64 0, .bool false] 134)) w.heap.size (some ⟨g2, 0, none⟩) m m (List.replicate m 0) ∧
    Below w.heap.size w ((w.alloc (.cells (madeCells #[.int .u8 0] m) 5)).alloc (.cells #[.slice (some ⟨w.heap.size, 0, none⟩) m m, .int .i64 0, .bool false] 134)) := by
  refine ⟨w.heap.size + 1, w.heap.size, rfl, by omega, by omega, by omega, by simp, ⟨?_, by omega, hm, Nat.le_refl _⟩, (Ow.made w w.heap.size w.heap.size rfl (Nat.le_refl _) m hm).alloc _, ((Below.refl _ _).alloc (Nat.le_refl _) _).alloc (by simp) _⟩
  have := heap_alloc_new (w.alloc (.cells (madeCells #[.int .u8 0] m) 5)) (.cells #[.slice (some ⟨w.heap.size, 0, none⟩) m m, .int .i64 0, .bool false] 134)
  simpa using this
set_option maxHeartbeats 1000000 in
set_option maxRecDepth 100000 in
theorem newWriter_any (size : Int) (w : World) :
    Calls Try.prog 72 #[.int .i64 size] w fun e w' => ∃ g g2, e = .returned (.pointer (some ⟨g, 0, none⟩)) ∧ w.heap.size ≤ g ∧ w.heap.size ≤ g2 ∧ g ≠ g2 ∧ g < w'.heap.size ∧ Cur w' g 134 (some ⟨g2, 0, none⟩) (nwN size) (nwN size) 0 false ∧ Ow w' w.heap.size (some ⟨g2, 0, none⟩) (nwN size) (nwN size) (List.replicate (nwN size) 0) ∧ Below w.heap.size w w' := by
  by_cases h : 0 ≤ size ∧ size ≤ 65536
  · obtain ⟨m, rfl⟩ := Int.eq_ofNat_of_zero_le h.1
    have hn : nwN (m : Int) = m := by unfold nwN; rw [if_pos h]; omega
    rw [hn]
    have f1 : decide ((m : Int) < 0) = false := decide_eq_false (by omega)
    have f2 : decide (65536 < (m : Int)) = false := decide_eq_false (by omega)
    have hm : m ≤ 65536 := by omega
    have hmk := mk8 m (by omega)
    clear h hn
    go_enter Try.func72, Try.ntmps72
    go_wp2
    go_ret
    exact newWriter_post w m (by omega)
  · have hn : nwN size = 0 := by unfold nwN; rw [if_neg h]
    rw [hn]
    have hmk : ∀ W : World, (Instr.makeSlice 27 (.int .i64 0) (.int .i64 0)).run Try.prog W = .ok (.slice (some ⟨W.heap.size, 0, none⟩) 0 0) (W.alloc (.cells (madeCells #[.int .u8 0] 0) 5)) := mk8 0 (by omega)
    by_cases h1 : size < 0
    · have f1 := decide_eq_true h1
      clear h h1 hn
      go_enter Try.func72, Try.ntmps72
      go_wp2
      go_ret
      exact newWriter_post w 0 (by omega)
    · have f1 := decide_eq_false h1
      have f2 : decide (65536 < size) = true := decide_eq_true (by omega)
      clear h h1 hn
      go_enter Try.func72, Try.ntmps72
      go_wp2
      go_ret
      exact newWriter_post w 0 (by omega)

/-- What Done tells. -/
def doneE (sp : Bool) : Int := if sp = true then 30 else 0
def doneB (sp : Bool) (xs : List UInt8) : List UInt8 := if sp = true then [] else xs
set_option maxHeartbeats 1000000 in
set_option maxRecDepth 100000 in
theorem done_any (g : Nat) (A : Option Addr) (n c a : Nat) (sp : Bool) (xs : List UInt8) (w : World) (h : Cur w g 134 A n c a sp) (hb : Bs w A n c xs) :
    Calls Try.prog 75 #[.pointer (some ⟨g, 0, none⟩)] w fun e w' => ∃ A' c', e = .returned (.tuple #[.slice A' (doneB sp xs).length c', .int .i64 (doneE sp)]) ∧ Ow w' w.heap.size A' (doneB sp xs).length c' (doneB sp xs) ∧ Below w.heap.size w w' := by
  obtain ⟨c0, c1, c2⟩ := h.cells
  have hl := Aside0.mk hb.len
  cases sp with
  | true =>
    go_enter Try.func75, Try.ntmps75
    go_wp2
    go_ret2
    exact ⟨none, 0, rfl, Ow.nil _ _, Below.refl _ _⟩
  | false =>
    go_enter Try.func75, Try.ntmps75
    go_wp2_with (go_at_call 49; refine (clone8_any A n c xs _ hb).mono ?_; rintro e w1 ⟨A1, c1', rfl, hO1, hB1⟩)
    have hl' : (doneB false xs).length = n := hl.out
    go_ret2
    exact ⟨A1, c1', by rw [hl']; rfl, by rw [hl']; exact hO1, hB1⟩

set_option maxHeartbeats 1000000 in
set_option maxRecDepth 100000 in
theorem newReader_any (A : Option Addr) (n c : Nat) (xs : List UInt8) (w : World) (hb : Bs w A n c xs) :
    Calls Try.prog 58 #[.slice A n c] w fun e w' => ∃ g A1 c1, e = .returned (.pointer (some ⟨g, 0, none⟩)) ∧ w.heap.size ≤ g ∧ (∀ ad, A1 = some ad → 0 < n → ad.block ≠ g) ∧ Cur w' g 105 A1 n c1 0 false ∧ Ow w' w.heap.size A1 n c1 xs ∧ Below w.heap.size w w' := by
  have hlim := hb.lim
  go_enter Try.func58, Try.ntmps58
  go_wp2_with (go_at_call 49; refine (clone8_any A n c xs _ hb).mono ?_; rintro e w1 ⟨A1, c1, rfl, hO1, hB1⟩)
  go_ret
  refine ⟨w1.heap.size, A1, c1, rfl, hB1.size, fun ad e hn => ?_, ⟨heap_alloc_new _ _, Nat.zero_le _, hlim, hO1.bs.le⟩, hO1.alloc _, hB1.alloc hB1.size _⟩
  obtain ⟨g, h1, _, h3, _⟩ := hO1.head hn
  rw [h1] at e
  injection e with e
  subst e
  exact (show g ≠ w1.heap.size by omega)
set_option maxHeartbeats 1000000 in
set_option maxRecDepth 100000 in
theorem err_any (g : Nat) (A : Option Addr) (n c a : Nat) (sp : Bool) (w : World) (h : Cur w g 105 A n c a sp) :
    Calls Try.prog 60 #[.pointer (some ⟨g, 0, none⟩)] w fun e w' => e = .returned (.int .i64 (doneE sp)) ∧ w = w' := by
  obtain ⟨c0, c1, c2⟩ := h.cells
  cases sp with
  | true =>
    go_enter Try.func60, Try.ntmps60
    go_wp2
    go_ret
    exact ⟨rfl, rfl⟩
  | false =>
    go_enter Try.func60, Try.ntmps60
    go_wp2
    go_ret
    exact ⟨rfl, rfl⟩
set_option maxHeartbeats 1000000 in
set_option maxRecDepth 100000 in
theorem skip_any (g : Nat) (T : TypeId) (A : Option Addr) (n c a : Nat) (sp : Bool) (m : Int) (w : World) (h : Cur w g T A n c a sp) :
    Calls Try.prog 63 #[.pointer (some ⟨g, 0, none⟩), .int .i64 m] w fun e w' => e = .returned (.tuple #[]) ∧ OnlyB g w w' ∧ w'.heap.size = w.heap.size ∧
      (((sp = true ∨ m < 0 ∨ (n : Int) - a < m) ∧ Cur w' g T A n c a true) ∨ (sp = false ∧ 0 ≤ m ∧ a + m.toNat ≤ n ∧ Cur w' g T A n c (a + m.toNat) false)) := by
  go_enter Try.func63, Try.ntmps63
  go_wp2_with (go_at_call 97; refine (next_any g T A n c a sp m _ h).mono ?_; rintro e w1 ⟨ho, hs, ⟨hm, rfl, hc⟩ | ⟨h1, h2, h3, rfl, hc⟩⟩)
  · go_end0
    exact ⟨rfl, ho, hs, .inl ⟨hm, hc⟩⟩
  · go_end0
    exact ⟨rfl, ho, hs, .inr ⟨h1, h2, h3, hc⟩⟩
end Go.Proofs.Ytbjfklgmbeaaoaa

set_option linter.unusedVariables false
set_option linter.unusedSimpArgs false
namespace Go.Proofs.Ytbjfklgmbeaaoaa
open Go.RowKit

/-- Which numbers have room in which widths. -/
def fitsB (n width : Int) : Bool := decide (1 ≤ width ∧ width ≤ 8 ∧ 0 ≤ n ∧ n < 256 ^ width.toNat)
theorem fits_no {n width : Int} (h : ¬ (1 ≤ width ∧ width ≤ 8 ∧ 0 ≤ n)) : fitsB n width = false := decide_eq_false (fun k => h ⟨k.1, k.2.1, k.2.2.1⟩)
set_option maxHeartbeats 2000000 in
set_option maxRecDepth 100000 in
theorem fits_any (n width : Int) (w : World) (hn : -9223372036854775808 ≤ n ∧ n ≤ 9223372036854775807) :
    Calls Try.prog 111 #[.int .i64 n, .int .i64 width] w fun e w' => e = .returned (.bool (fitsB n width)) ∧ w = w' := by
  obtain ⟨n0, n1⟩ := hn
  by_cases h1 : 1 ≤ width
  · have f1 := decide_eq_true h1
    have f1' : decide (width < 1) = false := decide_eq_false (by omega)
    by_cases h2 : width ≤ 8
    · have f2 := decide_eq_true h2
      have f2' : decide (8 < width) = false := decide_eq_false (by omega)
      by_cases h3 : 0 ≤ n
      · have f3 := decide_eq_true h3
        have f3' : decide (n < 0) = false := decide_eq_false (by omega)
        rcases (show width = 1 ∨ width = 2 ∨ width = 3 ∨ width = 4 ∨ width = 5 ∨ width = 6 ∨ width = 7 ∨ width = 8 by omega) with rfl | rfl | rfl | rfl | rfl | rfl | rfl | rfl
        · have hv := Aside0.mk (show fitsB n 1 = decide (n < 256) from by unfold fitsB; apply decide_eq_decide.2; rw [show (256 : Int) ^ (1 : Int).toNat = 256 from by decide]; omega)
          clear h1 h2 f1 f2 f1' f2'
          go_enter Try.func111, Try.ntmps111
          go_wp2
          go_ret
          refine ⟨ret_bool ?_, rfl⟩
          rw [hv.out, Bool.eq_iff_iff]
          simp
          try omega
        · have hv := Aside0.mk (show fitsB n 2 = decide (n < 65536) from by unfold fitsB; apply decide_eq_decide.2; rw [show (256 : Int) ^ (2 : Int).toNat = 65536 from by decide]; omega)
          clear h1 h2 f1 f2 f1' f2'
          go_enter Try.func111, Try.ntmps111
          go_wp2
          go_ret
          refine ⟨ret_bool ?_, rfl⟩
          rw [hv.out, Bool.eq_iff_iff]
          simp
          try omega
        · have hv := Aside0.mk (show fitsB n 3 = decide (n < 16777216) from by unfold fitsB; apply decide_eq_decide.2; rw [show (256 : Int) ^ (3 : Int).toNat = 16777216 from by decide]; omega)
          clear h1 h2 f1 f2 f1' f2'
          go_enter Try.func111, Try.ntmps111
          go_wp2
          go_ret
          refine ⟨ret_bool ?_, rfl⟩
          rw [hv.out, Bool.eq_iff_iff]
          simp
          try omega
        · have hv := Aside0.mk (show fitsB n 4 = decide (n < 4294967296) from by unfold fitsB; apply decide_eq_decide.2; rw [show (256 : Int) ^ (4 : Int).toNat = 4294967296 from by decide]; omega)
          clear h1 h2 f1 f2 f1' f2'
          go_enter Try.func111, Try.ntmps111
          go_wp2
          go_ret
          refine ⟨ret_bool ?_, rfl⟩
          rw [hv.out, Bool.eq_iff_iff]
          simp
          try omega
        · have hv := Aside0.mk (show fitsB n 5 = decide (n < 1099511627776) from by unfold fitsB; apply decide_eq_decide.2; rw [show (256 : Int) ^ (5 : Int).toNat = 1099511627776 from by decide]; omega)
          clear h1 h2 f1 f2 f1' f2'
          go_enter Try.func111, Try.ntmps111
          go_wp2
          go_ret
          refine ⟨ret_bool ?_, rfl⟩
          rw [hv.out, Bool.eq_iff_iff]
          simp
          try omega
        · have hv := Aside0.mk (show fitsB n 6 = decide (n < 281474976710656) from by unfold fitsB; apply decide_eq_decide.2; rw [show (256 : Int) ^ (6 : Int).toNat = 281474976710656 from by decide]; omega)
          clear h1 h2 f1 f2 f1' f2'
          go_enter Try.func111, Try.ntmps111
          go_wp2
          go_ret
          refine ⟨ret_bool ?_, rfl⟩
          rw [hv.out, Bool.eq_iff_iff]
          simp
          try omega
        · have hv := Aside0.mk (show fitsB n 7 = decide (n < 72057594037927936) from by unfold fitsB; apply decide_eq_decide.2; rw [show (256 : Int) ^ (7 : Int).toNat = 72057594037927936 from by decide]; omega)
          clear h1 h2 f1 f2 f1' f2'
          go_enter Try.func111, Try.ntmps111
          go_wp2
          go_ret
          refine ⟨ret_bool ?_, rfl⟩
          rw [hv.out, Bool.eq_iff_iff]
          simp
          try omega
        · have hv := Aside0.mk (show fitsB n 8 = decide (n < 18446744073709551616) from by unfold fitsB; apply decide_eq_decide.2; rw [show (256 : Int) ^ (8 : Int).toNat = 18446744073709551616 from by decide]; omega)
          clear h1 h2 f1 f2 f1' f2'
          go_enter Try.func111, Try.ntmps111
          go_wp2
          go_ret
          refine ⟨ret_bool ?_, rfl⟩
          rw [hv.out, Bool.eq_iff_iff]
          simp
          try omega
      · have f3 := decide_eq_false h3
        have f3' : decide (n < 0) = true := decide_eq_true (by omega)
        have hv := Aside0.mk (fits_no (n := n) (width := width) (by omega))
        go_enter Try.func111, Try.ntmps111
        go_wp2
        go_ret
        exact ⟨ret_bool hv.out.symm, rfl⟩
    · have f2 := decide_eq_false h2
      have f2' : decide (8 < width) = true := decide_eq_true (by omega)
      have hv := Aside0.mk (fits_no (n := n) (width := width) (by omega))
      go_enter Try.func111, Try.ntmps111
      go_wp2
      go_ret
      exact ⟨ret_bool hv.out.symm, rfl⟩
  · have f1 := decide_eq_false h1
    have f1' : decide (width < 1) = true := decide_eq_true (by omega)
    have hv := Aside0.mk (fits_no (n := n) (width := width) (by omega))
    go_enter Try.func111, Try.ntmps111
    go_wp2
    go_ret
    exact ⟨ret_bool hv.out.symm, rfl⟩
end Go.Proofs.Ytbjfklgmbeaaoaa

set_option linter.unusedVariables false
set_option linter.unusedSimpArgs false
namespace Go.Proofs.Ytbjfklgmbeaaoaa
open Go.RowKit

/-! Worlds of which two blocks alone have turned -/
structure Only2 (g h : Nat) (w W : World) : Prop where
  os : W.os = w.os
  tape : W.tape = w.tape
  output : W.output = w.output
  size : w.heap.size ≤ W.heap.size
  block : ∀ i, i < w.heap.size → i ≠ g → i ≠ h → W.heap[i]? = w.heap[i]?
theorem Only2.of1 {g h : Nat} {w W : World} (k : OnlyB g w W) : Only2 g h w W := ⟨k.os, k.tape, k.output, k.size, fun i hi hne _ => k.block i hi hne⟩
theorem Only2.of2 {g h : Nat} {w W : World} (k : OnlyB h w W) : Only2 g h w W := ⟨k.os, k.tape, k.output, k.size, fun i hi _ hne => k.block i hi hne⟩
theorem Only2.trans {g h : Nat} {w W X : World} (a : Only2 g h w W) (b : Only2 g h W X) : Only2 g h w X :=
  ⟨b.os.trans a.os, b.tape.trans a.tape, b.output.trans a.output, Nat.le_trans a.size b.size, fun i hi h1 h2 => (b.block i (Nat.lt_of_lt_of_le hi a.size) h1 h2).trans (a.block i hi h1 h2)⟩
theorem Only2.refl (g h : Nat) (w : World) : Only2 g h w w := ⟨rfl, rfl, rfl, Nat.le_refl _, fun _ _ _ _ => rfl⟩
theorem Only2.of_below {g h : Nat} {w W : World} (k : Below w.heap.size w W) : Only2 g h w W := ⟨k.os, k.tape, k.output, k.size, fun i hi _ _ => k.block i hi⟩
theorem Only2.below {g h base : Nat} {w0 w W : World} (k : Only2 g h w W) (hB : Below base w0 w) (hg : base ≤ g) (hh : base ≤ h) (hs : base ≤ w0.heap.size) : Below base w0 W :=
  ⟨k.os.trans hB.os, k.tape.trans hB.tape, k.output.trans hB.output, Nat.le_trans hB.size k.size, fun i hi => (k.block i (by have := hB.size; omega) (by omega) (by omega)).trans (hB.block i hi)⟩

/-- What a writer is, by itself. -/
structure WS where
  at_ : Nat
  sp : Bool
  xs : List UInt8
/-- The last byte first. -/
def le8 (n : Int) : Nat → List UInt8
  | 0 => []
  | k + 1 => le8 n k ++ [UInt8.ofNat (n / 256 ^ k % 256).toNat]
theorem le8_length (n : Int) (k : Nat) : (le8 n k).length = k := by
  induction k with
  | zero => rfl
  | succ k ih => simp [le8, ih]
def putL (xs ys : List UInt8) (a : Nat) : List UInt8 := xs.take a ++ (ys ++ xs.drop (a + ys.length))
theorem putL_length (xs ys : List UInt8) (a : Nat) (h : a + ys.length ≤ xs.length) : (putL xs ys a).length = xs.length := by simp [putL]; omega
theorem putL_nil (xs : List UInt8) (a : Nat) : putL xs [] a = xs := by simp [putL]
theorem putL_succ (xs ys : List UInt8) (a : Nat) (y : UInt8) (h : a + ys.length < xs.length) : putL xs (ys ++ [y]) a = (putL xs ys a).set (a + ys.length) y := by
  unfold putL
  have e1 : (List.take a xs).length = a := by simp; omega
  rw [List.set_append_right _ _ (by omega), e1, show a + ys.length - a = ys.length by omega, List.set_append_right _ _ (by omega), Nat.sub_self, List.drop_eq_getElem_cons h, List.set_cons_zero]
  simp [Nat.add_assoc]
def putS (s : WS) (n width : Int) : WS := if fitsB n width = true ∧ s.sp = false ∧ s.at_ + width.toNat ≤ s.xs.length then ⟨s.at_ + width.toNat, false, putL s.xs (le8 n width.toNat) s.at_⟩ else ⟨s.at_, true, s.xs⟩
/-- A writer in memory: its own block, and its bytes'. -/
structure Wr (w : World) (base g g2 c : Nat) (s : WS) : Prop where
  cur : Cur w g 134 (some ⟨g2, 0, none⟩) s.xs.length c s.at_ s.sp
  own : Ow w base (some ⟨g2, 0, none⟩) s.xs.length c s.xs
  ne : g ≠ g2
  lo : base ≤ g
  lo2 : base ≤ g2
theorem Ow.only {g : Nat} {w W : World} {base n c : Nat} {A : Option Addr} {xs : List UInt8} (h : Ow w base A n c xs) (ho : OnlyB g w W) (hne : ∀ k, A = some ⟨k, 0, none⟩ → k ≠ g) : Ow W base A n c xs :=
  h.kept fun k e hk => ho.block k hk (hne k e)
theorem Wr.below {w W : World} {base g g2 c : Nat} {s : WS} (h : Wr w base g g2 c s) (hB : Below w.heap.size w W) : Wr W base g g2 c s := ⟨h.cur.below hB, h.own.below hB, h.ne, h.lo, h.lo2⟩

theorem shr8 (n : Int) (hn : 0 ≤ n) (j : Nat) (hj : j < 8) : Op.shift .shr .i64 n .i64 (8 * (j : Int)) = pure (.int .i64 (n / 256 ^ j)) := by
  rcases (show j = 0 ∨ j = 1 ∨ j = 2 ∨ j = 3 ∨ j = 4 ∨ j = 5 ∨ j = 6 ∨ j = 7 by omega) with rfl | rfl | rfl | rfl | rfl | rfl | rfl | rfl <;> simp [go_sem]

theorem put_val (n : Int) (j : Nat) : n / 2 ^ (8 * j) % 256 = ((UInt8.ofNat (n / 256 ^ j % 256).toNat).toNat : Int) := by
  have e : (2 : Int) ^ (8 * j) = 256 ^ j := by rw [Int.pow_mul]; rfl
  rw [e, UInt8.toNat_ofNat']
  omega
set_option maxHeartbeats 2000000 in
set_option maxRecDepth 100000 in
theorem put_any (base g g2 c : Nat) (s : WS) (n width : Int) (w : World) (hn : -9223372036854775808 ≤ n ∧ n ≤ 9223372036854775807) (h : Wr w base g g2 c s) :
    Calls Try.prog 87 #[.pointer (some ⟨g, 0, none⟩), .int .i64 n, .int .i64 width] w fun e w' => e = .returned (.tuple #[]) ∧ Wr w' base g g2 c (putS s n width) ∧ Only2 g g2 w w' ∧ w'.heap.size = w.heap.size := by
  cases hf : fitsB n width with
  | false =>
    have hp : putS s n width = ⟨s.at_, true, s.xs⟩ := by unfold putS; rw [if_neg (by simp [hf])]
    obtain ⟨c0, c1, c2⟩ := h.cur.cells
    have t0 := h.cur.thaw
    go_enter Try.func87, Try.ntmps87
    go_wp2_with (go_at_call 111; refine (fits_any n width _ hn).mono ?_; rintro e w1 ⟨rfl, rfl⟩; rw [hf])
    first | go_end0 | refine bodyPost_ret (results_none rfl _ _ _) rfl ?_
    rw [hp]
    exact ⟨rfl, ⟨by have := h.cur.spoil 0; exact this, h.own.only ((OnlyB.refl g w).set 2 _) (fun k e => by injection e with e; injection e with e; subst e; exact fun q => h.ne q.symm), h.ne, h.lo, h.lo2⟩, Only2.of1 ((OnlyB.refl g w).set 2 _), set_size ..⟩
  | true =>
    obtain ⟨k1, k2, k3, k4⟩ := of_decide_eq_true hf
    obtain ⟨m, rfl⟩ := Int.eq_ofNat_of_zero_le (show 0 ≤ width by omega)
    by_cases hroom : s.sp = false ∧ s.at_ + m ≤ s.xs.length
    · have hp : putS s n m = ⟨s.at_ + m, false, putL s.xs (le8 n m) s.at_⟩ := by unfold putS; rw [if_pos (by simpa [hf] using hroom)]; simp
      obtain ⟨hr1, hr2⟩ := hroom
      have hgo : ¬ (s.sp = true ∨ (m : Int) < 0 ∨ (s.xs.length : Int) - s.at_ < (m : Int)) := by rw [hr1]; simp; omega
      have hnn := h.ne
      have hown := h.own.bs.le
      have hcA : cutA (some ⟨g2, 0, none⟩) c s.at_ = some ⟨g2, s.at_, none⟩ := by unfold cutA; rw [if_neg (by omega)]; simp [add_plain]
      go_enter Try.func87, Try.ntmps87
      go_wp2_with (first | (go_at_call 111; refine (fits_any n m _ hn).mono ?_; rintro e w1 ⟨rfl, rfl⟩; rw [hf]) | (go_at_call 97; refine (next_any g _ _ _ c _ _ (m : Int) _ h.cur).mono ?_; rintro e w2 ⟨ho, hsz, ⟨q1, rfl, hc⟩ | ⟨q1, q2, q3, rfl, hc⟩⟩; (first | exact absurd q1 hgo | rw [hcA])))
      have hO := Aside0.mk (h.own.only ho (fun k e => by injection e with e; injection e with e; subst e; exact fun q => h.ne q.symm))
      have HH := Aside0.mk h
      have HC := Aside0.mk hc
      have HO := Aside0.mk ho
      have hp' := Aside0.mk hp
      clear h hc ho hp hgo hcA q1 q2 q3
      go_loopg [23] m (fun k v wr => ∃ j : Nat, Aside (k + j = m) ∧ v = .int .i64 (j : Int) ∧ Aside0 (Ow wr base (some ⟨g2, 0, none⟩) s.xs.length c (putL s.xs (le8 n j) s.at_)) ∧ Aside0 (OnlyB g2 w2 wr) ∧ Aside0 (wr.heap.size = w2.heap.size))
      case atStart => exact ⟨0, rfl, rfl, ⟨by rw [le8, putL_nil]; exact hO.out⟩, ⟨OnlyB.refl _ _⟩, ⟨rfl⟩⟩
      case round =>
        obtain ⟨j, hk, rfl, hown2, hW, hS⟩ := hrel
        have hjb : j ≤ m := by have := hk.out; omega
        by_cases hlt : j < m
        · obtain ⟨adx, hadx, cx⟩ := hown2.out.bs.atN (s.at_ + j) (by omega)
          injection hadx with hadx
          subst hadx
          rw [add_plain] at cx
          obtain ⟨_, hg, _, _, hfr⟩ := hown2.out.head (by omega)
          injection hg with hg
          injection hg with hg
          subst hg
          have hfj := hfr (s.at_ + j)
          clear hfr
          have hjn : (j : Int) < (m : Int) := by omega
          have hj8 : (j : Int) < 8 := by omega
          have hsh := shr8 n k3 j (by omega)
          go_wp2
          go_roundg (m - (j + 1))
          case measure => have := hk.out; omega
          case rel =>
            refine ⟨j + 1, by have := hk.out; exact (show m - (j + 1) + (j + 1) = m by omega), by go_num, ⟨?_⟩, ⟨hW.out.set _ _⟩, ⟨(set_size ..).trans hS.out⟩⟩
            rw [le8, putL_succ _ _ _ _ (by rw [le8_length]; omega), le8_length]
            rw [put_val]
            exact hown2.out.store (s.at_ + j) _
        · obtain rfl : j = m := by omega
          go_wp2
          first | go_end0 | refine bodyPost_ret (results_none rfl _ _ _) rfl ?_
          have hxl : (putL s.xs (le8 n j) s.at_).length = s.xs.length := putL_length _ _ _ (by rw [le8_length]; omega)
          rw [hp'.out]
          refine ⟨rfl, ⟨?_, ?_, HH.out.ne, HH.out.lo, HH.out.lo2⟩, (Only2.of1 HO.out).trans (Only2.of2 hW.out), hS.out.trans hsz⟩
          · show Cur wr g _ _ (putL s.xs (le8 n j) s.at_).length c (s.at_ + j) false
            rw [hxl]
            exact HC.out.only hW.out hnn
          · show Ow wr base _ (putL s.xs (le8 n j) s.at_).length c (putL s.xs (le8 n j) s.at_)
            rw [hxl]
            exact hown2.out
    · have hp : putS s n m = ⟨s.at_, true, s.xs⟩ := by unfold putS; rw [if_neg (fun k => hroom ⟨k.2.1, by simpa using k.2.2⟩)]
      have hle := h.cur.le
      have hgo : s.sp = true ∨ (m : Int) < 0 ∨ (s.xs.length : Int) - s.at_ < (m : Int) := by
        cases hsp : s.sp with
        | true => exact .inl rfl
        | false => exact .inr (.inr (by have : ¬ s.at_ + m ≤ s.xs.length := fun k => hroom ⟨hsp, k⟩; omega))
      have hgo' := Aside0.mk hgo
      clear hgo
      go_enter Try.func87, Try.ntmps87
      go_wp2_with (first | (go_at_call 111; refine (fits_any n m _ hn).mono ?_; rintro e w1 ⟨rfl, rfl⟩; rw [hf]) | (go_at_call 97; refine (next_any g _ _ _ c _ _ (m : Int) _ h.cur).mono ?_; rintro e w2 ⟨ho, hsz, ⟨q1, rfl, hc⟩ | ⟨q1, q2, q3, rfl, hc⟩⟩; (first | skip | skip)))
      · have HC := Aside0.mk (And.intro hc (And.intro ho q1))
        clear hc ho q1
        go_loopg [23] 0 (fun k v wr => v = .int .i64 0 ∧ wr = w2)
        case atStart => exact ⟨rfl, rfl⟩
        case round =>
          obtain ⟨rfl, rfl⟩ := hrel
          go_wp2
          first | go_end0 | refine bodyPost_ret (results_none rfl _ _ _) rfl ?_
          rw [hp]
          exact ⟨rfl, ⟨HC.out.1, h.own.only HC.out.2.1 (fun k e => by injection e with e; injection e with e; subst e; exact fun q => h.ne q.symm), h.ne, h.lo, h.lo2⟩, Only2.of1 HC.out.2.1, hsz⟩
      · exact absurd hgo'.out (by rw [q1]; simp; omega)
end Go.Proofs.Ytbjfklgmbeaaoaa

set_option linter.unusedVariables false
set_option linter.unusedSimpArgs false
namespace Go.Proofs.Ytbjfklgmbeaaoaa
open Go.RowKit

set_option maxHeartbeats 1000000 in
set_option maxRecDepth 100000 in
theorem rbytes_any (base g : Nat) (A : Option Addr) (n c a : Nat) (sp : Bool) (xs : List UInt8) (m : Int) (w : World) (h : Cur w g 105 A n c a sp) (hb : Bs w A n c xs) (hne : ∀ ad, A = some ad → 0 < n → ad.block ≠ g) :
    Calls Try.prog 110 #[.pointer (some ⟨g, 0, none⟩), .int .i64 m] w fun e w' => ∃ A1 n1 c1 ys, e = .returned (.slice A1 n1 c1) ∧ Ow w' w.heap.size A1 n1 c1 ys ∧ OnlyB g w w' ∧
      (((sp = true ∨ m < 0 ∨ (n : Int) - a < m) ∧ Cur w' g 105 A n c a true ∧ ys = []) ∨ (sp = false ∧ 0 ≤ m ∧ a + m.toNat ≤ n ∧ Cur w' g 105 A n c (a + m.toNat) false ∧ ys = (xs.drop a).take m.toNat)) := by
  go_enter Try.func110, Try.ntmps110
  go_wp2_with (go_at_call 97; refine (next_any g _ A n c a sp m _ h).mono ?_; rintro e w2 ⟨ho, hsz, ⟨q1, rfl, hc⟩ | ⟨q1, q2, q3, rfl, hc⟩⟩)
  · go_wp2_with (go_at_call 49; refine (clone8_any none 0 0 [] _ (Bs.nil _ _ _ (by omega))).mono ?_; rintro e w3 ⟨A3, c3, rfl, hO3, hB3⟩)
    go_ret
    exact ⟨A3, 0, c3, [], rfl, hO3.mono (by omega), ho.trans (OnlyB.of_below hB3), .inl ⟨q1, hc.below hB3, rfl⟩⟩
  · have hb2 := ((hb.only ho hne).drop a h.le).take m.toNat (by omega)
    go_wp2_with (go_at_call 49; refine (clone8_any _ _ _ _ _ hb2).mono ?_; rintro e w3 ⟨A3, c3, rfl, hO3, hB3⟩)
    go_ret
    exact ⟨A3, m.toNat, c3, _, rfl, hO3.mono (by omega), ho.trans (OnlyB.of_below hB3), .inr ⟨q1, q2, q3, hc.below hB3, rfl⟩⟩
end Go.Proofs.Ytbjfklgmbeaaoaa
