/- The walk of a writer's Put. -/
import Derived.Test.YtcegphnhohpegaaF2
import Derived.Test.YtcegphnhohpegaaF3
set_option linter.unusedVariables false
set_option linter.unusedSimpArgs false
namespace Go.Proofs.Ytcegphnhohpegaa
open Go.RowKit

/-! Worlds of which two blocks alone have turned -/
structure Only2 (g h : Nat) (w W : World) : Prop where
  os : W.os = w.os
  tape : W.tape = w.tape
  output : W.output = w.output
  size : w.heap.size ≤ W.heap.size
  block : ∀ i, i < w.heap.size → i ≠ g → i ≠ h → W.heap[i]? = w.heap[i]?
theorem Only2.of1 {g h : Nat} {w W : World} (k : OnlyB g w W) : Only2 g h w W := ⟨k.os, k.tape, k.output, k.size, fun i hi hne _ => k.block i hi hne⟩
theorem Only2.of2 {g h : Nat} {w W : World} (k : OnlyB h w W) : Only2 g h w W := ⟨k.os, k.tape, k.output, k.size, fun i hi _ hne => k.block i hi hne⟩
theorem Only2.trans {g h : Nat} {w W X : World} (a : Only2 g h w W) (b : Only2 g h W X) : Only2 g h w X :=
  ⟨b.os.trans a.os, b.tape.trans a.tape, b.output.trans a.output, Nat.le_trans a.size b.size, fun i hi h1 h2 => (b.block i (Nat.lt_of_lt_of_le hi a.size) h1 h2).trans (a.block i hi h1 h2)⟩
theorem Only2.refl (g h : Nat) (w : World) : Only2 g h w w := ⟨rfl, rfl, rfl, Nat.le_refl _, fun _ _ _ _ => rfl⟩
theorem Only2.of_below {g h : Nat} {w W : World} (k : Below w.heap.size w W) : Only2 g h w W := ⟨k.os, k.tape, k.output, k.size, fun i hi _ _ => k.block i hi⟩
theorem Only2.below {g h base : Nat} {w0 w W : World} (k : Only2 g h w W) (hB : Below base w0 w) (hg : base ≤ g) (hh : base ≤ h) (hs : base ≤ w0.heap.size) : Below base w0 W :=
  ⟨k.os.trans hB.os, k.tape.trans hB.tape, k.output.trans hB.output, Nat.le_trans hB.size k.size, fun i hi => (k.block i (by have := hB.size; omega) (by omega) (by omega)).trans (hB.block i hi)⟩

/-- What a writer is, by itself. -/
structure WS where
  at_ : Nat
  sp : Bool
  xs : List UInt8
/-- The last byte first. -/
def le8 (n : Int) : Nat → List UInt8
  | 0 => []
  | k + 1 => le8 n k ++ [UInt8.ofNat (n / 256 ^ k % 256).toNat]
theorem le8_length (n : Int) (k : Nat) : (le8 n k).length = k := by
  induction k with
  | zero => rfl
  | succ k ih => simp [le8, ih]
def putL (xs ys : List UInt8) (a : Nat) : List UInt8 := xs.take a ++ (ys ++ xs.drop (a + ys.length))
theorem putL_length (xs ys : List UInt8) (a : Nat) (h : a + ys.length ≤ xs.length) : (putL xs ys a).length = xs.length := by simp [putL]; omega
theorem putL_nil (xs : List UInt8) (a : Nat) : putL xs [] a = xs := by simp [putL]
theorem putL_succ (xs ys : List UInt8) (a : Nat) (y : UInt8) (h : a + ys.length < xs.length) : putL xs (ys ++ [y]) a = (putL xs ys a).set (a + ys.length) y := by
  unfold putL
  have e1 : (List.take a xs).length = a := by simp; omega
  rw [List.set_append_right _ _ (by omega), e1, show a + ys.length - a = ys.length by omega, List.set_append_right _ _ (by omega), Nat.sub_self, List.drop_eq_getElem_cons h, List.set_cons_zero]
  simp [Nat.add_assoc]
def putS (s : WS) (n width : Int) : WS := if fitsB n width = true ∧ s.sp = false ∧ s.at_ + width.toNat ≤ s.xs.length then ⟨s.at_ + width.toNat, false, putL s.xs (le8 n width.toNat) s.at_⟩ else ⟨s.at_, true, s.xs⟩
theorem Ow.only {g : Nat} {w W : World} {base n c : Nat} {A : Option Addr} {xs : List UInt8} (h : Ow w base A n c xs) (ho : OnlyB g w W) (hne : ∀ k, A = some ⟨k, 0, none⟩ → k ≠ g) : Ow W base A n c xs :=
  h.kept fun k e hk => ho.block k hk (hne k e)
theorem shr8 (n : Int) (hn : 0 ≤ n) (j : Nat) (hj : j < 8) : Op.shift .shr .i64 n .i64 (8 * (j : Int)) = pure (.int .i64 (n / 256 ^ j)) := by
  rcases (show j = 0 ∨ j = 1 ∨ j = 2 ∨ j = 3 ∨ j = 4 ∨ j = 5 ∨ j = 6 ∨ j = 7 by omega) with rfl | rfl | rfl | rfl | rfl | rfl | rfl | rfl <;> simp [go_sem]

theorem put_val (n : Int) (j : Nat) : n / 2 ^ (8 * j) % 256 = ((UInt8.ofNat (n / 256 ^ j % 256).toNat).toNat : Int) := by
  have e : (2 : Int) ^ (8 * j) = 256 ^ j := by rw [Int.pow_mul]; rfl
  rw [e, UInt8.toNat_ofNat']
  omega
end Go.Proofs.Ytcegphnhohpegaa
