/- The cursor of field: its place in memory, and next. -/
import Derived.Test.YtcegphnhohpegaaA3
import Derived.Test.YtcegphnhohpegaaQ0
import Derived.RegionTactic
import Derived.BigRegion
set_option linter.unusedVariables false
set_option linter.unusedSimpArgs false
namespace Go.Proofs.Ytcegphnhohpegaa
open Go.RowKit

/-! Worlds of which one block alone has turned -/
structure OnlyB (g : Nat) (w W : World) : Prop where
  os : W.os = w.os
  tape : W.tape = w.tape
  output : W.output = w.output
  size : w.heap.size ≤ W.heap.size
  block : ∀ i, i < w.heap.size → i ≠ g → W.heap[i]? = w.heap[i]?
theorem OnlyB.refl (g : Nat) (w : World) : OnlyB g w w := ⟨rfl, rfl, rfl, Nat.le_refl _, fun _ _ _ => rfl⟩
theorem OnlyB.set {g : Nat} {w W : World} (h : OnlyB g w W) (j : Nat) (v : Value) : OnlyB g w (W.setCell ⟨g, j, none⟩ v) := by
  have hb := (Below.refl g W).setCell (p := ⟨g, j, none⟩) (Nat.le_refl _) v
  exact ⟨hb.os.trans h.os, hb.tape.trans h.tape, hb.output.trans h.output, Nat.le_trans h.size hb.size, fun i hi hne => (Below.heap_setCell _ _ _ _ hne).trans (h.block i hi hne)⟩
theorem OnlyB.drew {g : Nat} {w W : World} (h : OnlyB g w W) : OnlyB g w W.drew := ⟨h.os, h.tape, h.output, h.size, h.block⟩
theorem OnlyB.below {g base : Nat} {w0 w W : World} (h : OnlyB g w W) (hB : Below base w0 w) (hg : base ≤ g) (hs : base ≤ w0.heap.size) : Below base w0 W :=
  ⟨h.os.trans hB.os, h.tape.trans hB.tape, h.output.trans hB.output, Nat.le_trans hB.size h.size, fun i hi => (h.block i (by have := hB.size; omega) (by omega)).trans (hB.block i hi)⟩
theorem OnlyB.cell {g : Nat} {w W : World} (h : OnlyB g w W) {a : Addr} {v : Value} (hne : a.block ≠ g) (hc : w.cell? a = some v) : W.cell? a = some v := by
  rw [← hc]
  exact World.cell?_of_block (h.block _ (World.block_lt_of_cell? w a hc) hne)
theorem add_block (ad : Addr) (i : Nat) : (ad.add i).block = ad.block := by unfold Addr.add; split <;> rfl
theorem Bs.only {g : Nat} {w W : World} {A : Option Addr} {n c : Nat} {xs : List UInt8} (h : Bs w A n c xs) (ho : OnlyB g w W) (hne : ∀ ad, A = some ad → 0 < n → ad.block ≠ g) : Bs W A n c xs :=
  ⟨h.len, h.le, h.cap, h.lim, fun hn => by
    obtain ⟨ad, e, hc⟩ := h.cells hn
    exact ⟨ad, e, fun i hi => ho.cell (by rw [add_block]; exact hne ad e hn) (hc i hi)⟩⟩
theorem Bs.lt {w : World} {A : Option Addr} {n c : Nat} {xs : List UInt8} (h : Bs w A n c xs) : ∀ ad, A = some ad → 0 < n → ad.block < w.heap.size := by
  intro ad e hn
  obtain ⟨ad', e', hc⟩ := h.cells hn
  rw [e] at e'
  injection e' with e'
  subst e'
  have := World.block_lt_of_cell? w _ (hc 0 hn)
  rwa [add_block] at this
/-- A cursor's block: bytes, a place, and whether it is spoiled. -/
structure Cur (W : World) (g : Nat) (T : TypeId) (A : Option Addr) (n c : Nat) (at_ : Nat) (sp : Bool) : Prop where
  row : W.heap[g]? = some (.cells #[.slice A n c, .int .i64 (at_ : Int), .bool sp] T)
  le : at_ ≤ n
  lim : n ≤ 140737488355328
  nc : n ≤ c
theorem Cur.cells {W : World} {g : Nat} {T : TypeId} {A : Option Addr} {n c a : Nat} {sp : Bool} (h : Cur W g T A n c a sp) :
    W.cell? ⟨g, 0, none⟩ = some (.slice A n c) ∧ W.cell? ⟨g, 1, none⟩ = some (.int .i64 (a : Int)) ∧ W.cell? ⟨g, 2, none⟩ = some (.bool sp) :=
  ⟨by rw [cell_of_row _ _ _ _ _ _ h.row]; rfl, by rw [cell_of_row _ _ _ _ _ _ h.row]; rfl, by rw [cell_of_row _ _ _ _ _ _ h.row]; rfl⟩
theorem Cur.thaw {W : World} {g : Nat} {T : TypeId} {A : Option Addr} {n c a : Nat} {sp : Bool} (h : Cur W g T A n c a sp) (j : Nat) : W.frozen? ⟨g, j, none⟩ = false := by simp [World.frozen?, h.row]

theorem set_size (w : World) (a : Addr) (v : Value) : (w.setCell a v).heap.size = w.heap.size := by simp
theorem OnlyB.drewN {g : Nat} {w W : World} (h : OnlyB g w W) (k : Nat) : OnlyB g w (W.drewN k) := ⟨h.os, h.tape, h.output, h.size, h.block⟩
theorem OnlyB.trans {g : Nat} {w W X : World} (h : OnlyB g w W) (k : OnlyB g W X) : OnlyB g w X :=
  ⟨k.os.trans h.os, k.tape.trans h.tape, k.output.trans h.output, Nat.le_trans h.size k.size, fun i hi hne => (k.block i (Nat.lt_of_lt_of_le hi h.size) hne).trans (h.block i hi hne)⟩
theorem OnlyB.of_below {g : Nat} {w W : World} (h : Below w.heap.size w W) : OnlyB g w W := ⟨h.os, h.tape, h.output, h.size, fun i hi _ => h.block i hi⟩
theorem Cur.below {w W : World} {g : Nat} {T : TypeId} {A : Option Addr} {n c a : Nat} {sp : Bool} (h : Cur w g T A n c a sp) (hB : Below w.heap.size w W) : Cur W g T A n c a sp :=
  ⟨by rw [hB.block g (Array.getElem?_eq_some_iff.1 h.row).1]; exact h.row, h.le, h.lim, h.nc⟩
theorem Cur.only {w W : World} {g k : Nat} {T : TypeId} {A : Option Addr} {n c a : Nat} {sp : Bool} (h : Cur w g T A n c a sp) (ho : OnlyB k w W) (hne : g ≠ k) : Cur W g T A n c a sp :=
  ⟨by rw [ho.block g (Array.getElem?_eq_some_iff.1 h.row).1 hne]; exact h.row, h.le, h.lim, h.nc⟩
theorem Cur.spoil {w : World} {g : Nat} {T : TypeId} {A : Option Addr} {n c a : Nat} {sp : Bool} (h : Cur w g T A n c a sp) (k : Nat) : Cur ((w.drewN k).setCell ⟨g, 2, none⟩ (.bool true)) g T A n c a true :=
  ⟨by rw [heap_setCell_same (w.drewN k) g 2 _ _ _ h.row]; rfl, h.le, h.lim, h.nc⟩
theorem Cur.go {w : World} {g : Nat} {T : TypeId} {A : Option Addr} {n c a m : Nat} {sp : Bool} (h : Cur w g T A n c a sp) (hm : a + m ≤ n) (j k : Nat) : Cur (((w.drewN j).setCell ⟨g, 1, none⟩ (.int .i64 ((a : Int) + (m : Int)))).drewN k) g T A n c (a + m) sp :=
  ⟨by
    have := heap_setCell_same (w.drewN j) g 1 _ _ (.int .i64 ((a : Int) + (m : Int))) h.row
    refine Eq.trans this ?_
    rw [Int.natCast_add]
    rfl, hm, h.lim, h.nc⟩
end Go.Proofs.Ytcegphnhohpegaa
