/- The cursor of field: its place in memory, and next. -/
import Derived.Test.YtenibcbodjkglaaA3
import Derived.Test.YtenibcbodjkglaaQ0
import Derived.RegionTactic
import Derived.BigRegion
set_option linter.unusedVariables false
set_option linter.unusedSimpArgs false
namespace Go.Proofs.Ytenibcbodjkglaa
open Go.RowKit

/-! Worlds of which one block alone has turned -/
structure OnlyB (g : Nat) (w W : World) : Prop where
  os : W.os = w.os
  tape : W.tape = w.tape
  output : W.output = w.output
  size : w.heap.size ≤ W.heap.size
  block : ∀ i, i < w.heap.size → i ≠ g → W.heap[i]? = w.heap[i]?
theorem OnlyB.refl (g : Nat) (w : World) : OnlyB g w w := ⟨rfl, rfl, rfl, Nat.le_refl _, fun _ _ _ => rfl⟩
theorem OnlyB.set {g : Nat} {w W : World} (h : OnlyB g w W) (j : Nat) (v : Value) : OnlyB g w (W.setCell ⟨g, j, none⟩ v) := by
  have hb := (Below.refl g W).setCell (p := ⟨g, j, none⟩) (Nat.le_refl _) v
  exact ⟨hb.os.trans h.os, hb.tape.trans h.tape, hb.output.trans h.output, Nat.le_trans h.size hb.size, fun i hi hne => (Below.heap_setCell _ _ _ _ hne).trans (h.block i hi hne)⟩
theorem OnlyB.drew {g : Nat} {w W : World} (h : OnlyB g w W) : OnlyB g w W.drew := ⟨h.os, h.tape, h.output, h.size, h.block⟩
theorem OnlyB.below {g base : Nat} {w0 w W : World} (h : OnlyB g w W) (hB : Below base w0 w) (hg : base ≤ g) (hs : base ≤ w0.heap.size) : Below base w0 W :=
  ⟨h.os.trans hB.os, h.tape.trans hB.tape, h.output.trans hB.output, Nat.le_trans hB.size h.size, fun i hi => (h.block i (by have := hB.size; omega) (by omega)).trans (hB.block i hi)⟩
theorem OnlyB.cell {g : Nat} {w W : World} (h : OnlyB g w W) {a : Addr} {v : Value} (hne : a.block ≠ g) (hc : w.cell? a = some v) : W.cell? a = some v := by
  rw [← hc]
  exact World.cell?_of_block (h.block _ (World.block_lt_of_cell? w a hc) hne)
theorem add_block (ad : Addr) (i : Nat) : (ad.add i).block = ad.block := by unfold Addr.add; split <;> rfl
theorem Bs.only {g : Nat} {w W : World} {A : Option Addr} {n c : Nat} {xs : List UInt8} (h : Bs w A n c xs) (ho : OnlyB g w W) (hne : ∀ ad, A = some ad → 0 < n → ad.block ≠ g) : Bs W A n c xs :=
  ⟨h.len, h.le, h.cap, h.lim, fun hn => by
    obtain ⟨ad, e, hc⟩ := h.cells hn
    exact ⟨ad, e, fun i hi => ho.cell (by rw [add_block]; exact hne ad e hn) (hc i hi)⟩⟩
theorem Bs.lt {w : World} {A : Option Addr} {n c : Nat} {xs : List UInt8} (h : Bs w A n c xs) : ∀ ad, A = some ad → 0 < n → ad.block < w.heap.size := by
  intro ad e hn
  obtain ⟨ad', e', hc⟩ := h.cells hn
  rw [e] at e'
  injection e' with e'
  subst e'
  have := World.block_lt_of_cell? w _ (hc 0 hn)
  rwa [add_block] at this
/-- A cursor's block: bytes, a place, and whether it is spoiled. -/
structure Cur (W : World) (g : Nat) (T : TypeId) (A : Option Addr) (n c : Nat) (at_ : Nat) (sp : Bool) : Prop where
  row : W.heap[g]? = some (.cells #[.slice A n c, .int .i64 (at_ : Int), .bool sp] T)
  le : at_ ≤ n
  lim : n ≤ 140737488355328
  nc : n ≤ c
theorem Cur.cells {W : World} {g : Nat} {T : TypeId} {A : Option Addr} {n c a : Nat} {sp : Bool} (h : Cur W g T A n c a sp) :
    W.cell? ⟨g, 0, none⟩ = some (.slice A n c) ∧ W.cell? ⟨g, 1, none⟩ = some (.int .i64 (a : Int)) ∧ W.cell? ⟨g, 2, none⟩ = some (.bool sp) :=
  ⟨by rw [cell_of_row _ _ _ _ _ _ h.row]; rfl, by rw [cell_of_row _ _ _ _ _ _ h.row]; rfl, by rw [cell_of_row _ _ _ _ _ _ h.row]; rfl⟩
theorem Cur.thaw {W : World} {g : Nat} {T : TypeId} {A : Option Addr} {n c a : Nat} {sp : Bool} (h : Cur W g T A n c a sp) (j : Nat) : W.frozen? ⟨g, j, none⟩ = false := by simp [World.frozen?, h.row]

set_option maxHeartbeats 1000000 in
set_option maxRecDepth 100000 in
theorem next_no (g : Nat) (T : TypeId) (A : Option Addr) (n c a : Nat) (sp : Bool) (m : Int) (w : World) (h : Cur w g T A n c a sp) (hm : sp = true ∨ m < 0 ∨ (n : Int) - a < m) :
    Calls Try.prog 44 #[.pointer (some ⟨g, 0, none⟩), .int .i64 m] w fun e w' => e = .returned (.slice none 0 0) ∧ ∃ k, w' = (w.drewN k).setCell ⟨g, 2, none⟩ (.bool true) := by
  obtain ⟨c0, c1, c2⟩ := h.cells
  have t0 := h.thaw
  have hle := h.le
  have hlim := h.lim
  cases sp with
  | true =>
    clear hm
    go_enter Try.func44, Try.ntmps44
    go_wp2
    go_quiet (fail)
    go_wp2
    go_ret
    exact ⟨rfl, _, rfl⟩
  | false =>
    by_cases h1 : m < 0
    · have f1 := decide_eq_true h1
      clear hm
      go_enter Try.func44, Try.ntmps44
      go_wp2
      go_quiet (fail)
      go_wp2
      go_ret
      exact ⟨rfl, _, rfl⟩
    have f1 := decide_eq_false h1
    have h2 : (n : Int) - a < m := by
      rcases hm with hm | hm | hm
      · cases hm
      · exact absurd hm h1
      · exact hm
    have f2 := decide_eq_true h2
    clear hm h1 h2
    go_enter Try.func44, Try.ntmps44
    go_wp2
    go_quiet (fail)
    go_wp2
    go_ret
    exact ⟨rfl, _, rfl⟩

set_option maxHeartbeats 1000000 in
set_option maxRecDepth 100000 in
theorem next_ok (g : Nat) (T : TypeId) (A : Option Addr) (n c a : Nat) (m : Nat) (w : World) (h : Cur w g T A n c a false) (hm : a + m ≤ n) :
    Calls Try.prog 44 #[.pointer (some ⟨g, 0, none⟩), .int .i64 (m : Int)] w fun e w' => e = .returned (.slice (cutA A c a) m (c - a)) ∧ ∃ j k, w' = ((w.drewN j).setCell ⟨g, 1, none⟩ (.int .i64 ((a : Int) + (m : Int)))).drewN k := by
  obtain ⟨c0, c1, c2⟩ := h.cells
  have t0 := h.thaw
  have hle := h.le
  have hlim := h.lim
  have hnc := h.nc
  have f1 : decide ((m : Int) < 0) = false := decide_eq_false (by omega)
  have f2 : decide ((n : Int) - a < (m : Int)) = false := decide_eq_false (by omega)
  have s1 : ∀ W : World, (Instr.slice 22 (.slice A n c) (some (.int .i64 (a : Int))) (some (.int .i64 ((a : Int) + (m : Int)))) none).run Try.prog W = .ok (.slice (cutA A c a) m (c - a)) W := fun W => by
    rw [sl8_lh W A n c .i64 .i64 (a : Int) ((a : Int) + (m : Int)) (by omega) (by omega) (by omega), show ((a : Int) + (m : Int)).toNat - (a : Int).toNat = m by omega, Int.toNat_natCast]
  have hcc := Int.add_sub_cancel (a : Int) (m : Int)
  go_enter Try.func44, Try.ntmps44
  go_wp2
  go_quiet (fail)
  go_wp2
  go_quiet (fail)
  go_wp2
  go_ret
  exact ⟨rfl, _, _, rfl⟩

theorem set_size (w : World) (a : Addr) (v : Value) : (w.setCell a v).heap.size = w.heap.size := by simp
theorem OnlyB.drewN {g : Nat} {w W : World} (h : OnlyB g w W) (k : Nat) : OnlyB g w (W.drewN k) := ⟨h.os, h.tape, h.output, h.size, h.block⟩
theorem OnlyB.trans {g : Nat} {w W X : World} (h : OnlyB g w W) (k : OnlyB g W X) : OnlyB g w X :=
  ⟨k.os.trans h.os, k.tape.trans h.tape, k.output.trans h.output, Nat.le_trans h.size k.size, fun i hi hne => (k.block i (Nat.lt_of_lt_of_le hi h.size) hne).trans (h.block i hi hne)⟩
theorem OnlyB.of_below {g : Nat} {w W : World} (h : Below w.heap.size w W) : OnlyB g w W := ⟨h.os, h.tape, h.output, h.size, fun i hi _ => h.block i hi⟩
theorem Cur.below {w W : World} {g : Nat} {T : TypeId} {A : Option Addr} {n c a : Nat} {sp : Bool} (h : Cur w g T A n c a sp) (hB : Below w.heap.size w W) : Cur W g T A n c a sp :=
  ⟨by rw [hB.block g (Array.getElem?_eq_some_iff.1 h.row).1]; exact h.row, h.le, h.lim, h.nc⟩
theorem Cur.only {w W : World} {g k : Nat} {T : TypeId} {A : Option Addr} {n c a : Nat} {sp : Bool} (h : Cur w g T A n c a sp) (ho : OnlyB k w W) (hne : g ≠ k) : Cur W g T A n c a sp :=
  ⟨by rw [ho.block g (Array.getElem?_eq_some_iff.1 h.row).1 hne]; exact h.row, h.le, h.lim, h.nc⟩
theorem Cur.spoil {w : World} {g : Nat} {T : TypeId} {A : Option Addr} {n c a : Nat} {sp : Bool} (h : Cur w g T A n c a sp) (k : Nat) : Cur ((w.drewN k).setCell ⟨g, 2, none⟩ (.bool true)) g T A n c a true :=
  ⟨by rw [heap_setCell_same (w.drewN k) g 2 _ _ _ h.row]; rfl, h.le, h.lim, h.nc⟩
theorem Cur.go {w : World} {g : Nat} {T : TypeId} {A : Option Addr} {n c a m : Nat} {sp : Bool} (h : Cur w g T A n c a sp) (hm : a + m ≤ n) (j k : Nat) : Cur (((w.drewN j).setCell ⟨g, 1, none⟩ (.int .i64 ((a : Int) + (m : Int)))).drewN k) g T A n c (a + m) sp :=
  ⟨by
    have := heap_setCell_same (w.drewN j) g 1 _ _ (.int .i64 ((a : Int) + (m : Int))) h.row
    refine Eq.trans this ?_
    rw [Int.natCast_add]
    rfl, hm, h.lim, h.nc⟩
/-- next, whole: where there is no room the cursor is spoiled; else it goes on. -/
theorem next_any (g : Nat) (T : TypeId) (A : Option Addr) (n c a : Nat) (sp : Bool) (m : Int) (w : World) (h : Cur w g T A n c a sp) :
    Calls Try.prog 44 #[.pointer (some ⟨g, 0, none⟩), .int .i64 m] w fun e w' => OnlyB g w w' ∧ w'.heap.size = w.heap.size ∧
      (((sp = true ∨ m < 0 ∨ (n : Int) - a < m) ∧ e = .returned (.slice none 0 0) ∧ Cur w' g T A n c a true) ∨
       (sp = false ∧ 0 ≤ m ∧ a + m.toNat ≤ n ∧ e = .returned (.slice (cutA A c a) m.toNat (c - a)) ∧ Cur w' g T A n c (a + m.toNat) false)) := by
  by_cases hm : sp = true ∨ m < 0 ∨ (n : Int) - a < m
  · refine (next_no g T A n c a sp m w h hm).mono ?_
    rintro e w' ⟨rfl, k, rfl⟩
    exact ⟨((OnlyB.refl g w).drewN k).set 2 _, set_size .. , .inl ⟨hm, rfl, h.spoil k⟩⟩
  · have h1 : sp = false := by cases sp; rfl; exact absurd (.inl rfl) hm
    subst h1
    have h2 : 0 ≤ m := by omega
    obtain ⟨m, rfl⟩ := Int.eq_ofNat_of_zero_le h2
    have h3 : a + m ≤ n := by have := h.le; omega
    refine (next_ok g T A n c a m w h h3).mono ?_
    rintro e w' ⟨rfl, j, k, rfl⟩
    exact ⟨(((OnlyB.refl g w).drewN j).set 1 _).drewN k, set_size .. , .inr ⟨rfl, h2, h3, rfl, h.go h3 j k⟩⟩

end Go.Proofs.Ytenibcbodjkglaa
