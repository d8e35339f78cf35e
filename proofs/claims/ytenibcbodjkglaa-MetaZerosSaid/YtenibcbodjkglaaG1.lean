/- slices.Backward over bytes: what it hands to a loop's body. After the kit's worked iterators over a slice. -/
import Derived.RangeFuncNested
import Derived.RangeFuncBox
import Derived.RangeFuncBound
import Derived.RangeFuncCalls
import Derived.RangeFuncLeaves
import Derived.Shelf.Abstract
import Derived.Shelf.RegionOpen
import Derived.WalkKit
import Derived.OwnWalkIn
import Derived.TacticsInMore
import Derived.LoopNIn
import Derived.LoopIn
import Derived.Test.YtenibcbodjkglaaA0
set_option linter.unusedVariables false
set_option linter.unusedSimpArgs false
namespace Go.Proofs.Ytenibcbodjkglaa
open Go.RowKit Go.Shelf
attribute [local go_sem] Oper.semAt_some

/-- What has come when k rounds are over. -/
def upto {α : Type} (f : Nat → α) (k : Nat) : List α := (List.range k).map f
theorem upto_succ {α : Type} (f : Nat → α) (k : Nat) : upto f (k + 1) = upto f k ++ [f k] := by simp [upto, List.range_succ]
theorem upto_length {α : Type} (f : Nat → α) (k : Nat) : (upto f k).length = k := by simp [upto]
/-- What lies below a place, but for one block, is as it was. -/
structure KX (k N : Nat) (W X : World) : Prop where
  block : ∀ i, i < N → i ≠ k → X.heap[i]? = W.heap[i]?
theorem KX.refl (k N : Nat) (W : World) : KX k N W W := ⟨fun _ _ _ => rfl⟩
theorem KX.trans {k N : Nat} {A B C : World} (h : KX k N A B) (h2 : KX k N B C) : KX k N A C := ⟨fun i hi hk => (h2.block i hi hk).trans (h.block i hi hk)⟩
theorem KX.of_below {k N : Nat} {A B : World} (h : Below N A B) : KX k N A B := ⟨fun i hi _ => h.block i hi⟩
theorem KX.put {k N : Nat} {w : World} (hN : N ≤ w.heap.size) (W : World) (l : Nat) (o o' : Obj) (hl : w.heap.size ≤ l) (h : W.heap[l]? = some o) (h1 : o.isCells = false) (h2 : o.isWalk = false) : KX k N W (W.putObj l o') :=
  KX.of_below (belowK_b hN W l o o' hl h h1 h2)
theorem KX.set {k N j : Nat} {W : World} (v : Value) : KX k N W (W.setCell ⟨k, j, none⟩ v) := ⟨fun i _ hk => Below.heap_setCell _ _ _ _ hk⟩
theorem KX.cell {k N : Nat} {A B : World} (h : KX k N A B) {a : Addr} (hN : a.block < N) (hk : a.block ≠ k) : B.cell? a = A.cell? a := World.cell?_of_block (h.block _ hN hk)
/-- A slice's bytes lie below a place, and not in one block. -/
structure Bb (k N : Nat) (W : World) (A : Option Addr) (n c : Nat) (xs : List UInt8) : Prop where
  bs : Bs W A n c xs
  lt : ∀ ad, A = some ad → 0 < n → ad.block < N ∧ ad.block ≠ k
theorem Bb.keep {k N : Nat} {W X : World} {A : Option Addr} {n c : Nat} {xs : List UInt8} (h : Bb k N W A n c xs) (hB : KX k N W X) : Bb k N X A n c xs :=
  ⟨⟨h.bs.len, h.bs.le, h.bs.cap, h.bs.lim, fun hn => by
    obtain ⟨ad, e, hc⟩ := h.bs.cells hn
    refine ⟨ad, e, fun j hj => ?_⟩
    have hb : (ad.add j).block = ad.block := by unfold Addr.add; split <;> rfl
    rw [← hc j hj]
    exact hB.cell (by rw [hb]; exact (h.lt ad e hn).1) (by rw [hb]; exact (h.lt ad e hn).2)⟩, h.lt⟩

set_option maxRecDepth 100000 in
set_option maxHeartbeats 2000000 in
theorem back1_in (F : Fence) (m : Nat) (h1 : F.fn 63) (hro : F.round = none) (hm : 1 ≤ m) (l Bx k5 N : Nat) (A : Option Addr) (n c : Nat) (xs : List UInt8) (hx1 : Bx < N) (hx2 : Bx ≠ k5) (J Jx : List (Nat × UInt8) → World → Prop)
    (hY : ∀ pre x W, J pre W → pre.length < n → YieldAt F (m - 1) Try.prog l #[.int .i64 (x.1 : Int), .int .u8 (x.2.toNat : Int)] W fun e W' =>
      (e = .returned (.bool true) ∧ J (pre ++ [x]) W' ∧ KX k5 N W W') ∨ (e = .returned (.bool false) ∧ Jx (pre ++ [x]) W'))
    (W : World) (hBs : W.cell? ⟨Bx, 0, none⟩ = some (.slice A n c)) (hb : Bb k5 N W A n c xs) (h0 : J [] W) :
    CallsIn F m Try.prog 63 #[.func (.yield l) #[] #[], .pointer (some ⟨Bx, 0, none⟩)] W fun e W' => (∃ v, e = .returned v) ∧
      ((∃ ys, ys = upto (fun j => (n - 1 - j, xs.getD (n - 1 - j) 0)) n ∧ J ys W') ∨ (∃ pre, (∃ k, k ≤ n ∧ pre = upto (fun j => (n - 1 - j, xs.getD (n - 1 - j) 0)) k) ∧ Jx pre W')) := by
  have hlim := hb.bs.lim
  refine callsIn_of_wp Try.func63 rfl h1 ?_ hro
  simp only [Try.ntmps63, List.size_toArray, List.length_cons, List.length_nil, Nat.reduceAdd, Nat.reduceSub, Array.replicate_succ, Array.replicate_zero, List.push_toArray, List.append_toArray, List.nil_append, List.cons_append]
  gi_wp2
  gi_loopw [3] (fun i wr => ∃ k : Nat, k ≤ n ∧ i = .int .i64 ((n : Int) - 1 - (k : Int)) ∧ J (upto (fun j => (n - 1 - j, xs.getD (n - 1 - j) 0)) k) wr ∧ KX k5 N W wr)
    (fun i _ => (intOf i + 1).toNat)
  case atStart => exact ⟨0, Nat.zero_le _, by simp, h0, KX.refl _ _ _⟩
  case round =>
    obtain ⟨k, hk, rfl, hJs, hnx⟩ := hrel
    have hbx : wr.cell? ⟨Bx, 0, none⟩ = some (.slice A n c) := (hnx.cell (a := ⟨Bx, 0, none⟩) hx1 hx2).trans hBs
    by_cases hlt : k < n
    · obtain ⟨p, hp⟩ : ∃ p, n - 1 - k = p := ⟨_, rfl⟩
      have hi : (n : Int) - 1 - (k : Int) = (p : Int) := by omega
      obtain ⟨fn, tmps, assign, body, hy, hR⟩ := hY _ (p, xs.getD p 0) wr hJs (by rw [upto_length]; exact hlt)
      dsimp only at hy
      obtain ⟨ad, rfl, hcx⟩ := (hb.keep hnx).bs.atN p (by omega)
      have hcx' : wr.cell? (ad.add p) = some (.int .u8 ((xs[p]?.getD 0).toNat : Int)) := by rw [hcx]; simp [b8, List.getD_eq_getElem?_getD]
      clear hcx
      rw [List.getD_eq_getElem?_getD] at hy
      have hpn : (p : Int) < (n : Int) := by omega
      rw [hi]
      gi_wp2
      refine hR.mono ?_
      rintro e W3 (⟨rfl, hJ3, hk3⟩ | ⟨rfl, hJx3⟩)
      · gi_wp2
        go_roundw
        case rel => exact ⟨k + 1, by omega, by go_num, by rw [upto_succ, hp]; exact hJ3, hnx.trans hk3⟩
        case measure => simp [intOf]
      · gi_wp2
        refine bodyPost_ret (results_none rfl _ _ _) rfl ?_
        exact ⟨⟨_, rfl⟩, .inr ⟨_, ⟨k + 1, by omega, by rw [upto_succ, hp]⟩, hJx3⟩⟩
    · obtain rfl : k = n := by omega
      have hneg : (k : Int) - 1 - (k : Int) = -1 := by omega
      rw [hneg]
      gi_wp2
      go_end0
      exact ⟨⟨_, rfl⟩, .inl ⟨_, rfl, hJs⟩⟩
set_option maxHeartbeats 1000000 in
/-- slices.Backward: the slice is boxed; the function value captures the box. -/
theorem back_in (F : Fence) (m : Nat) (h1 : F.fn 61) (hro : F.round = none) (a : Option Addr) (n c : Nat) (w : World) :
    CallsIn F m Try.prog 61 #[.slice a n c] w fun e w' => e = .returned (.func (.func 63) #[] #[.pointer (some ⟨w.heap.size, 0, none⟩)]) ∧ w' = w.alloc (.cells #[.slice a n c] 22) := by
  refine callsIn_of_wp Try.func61 rfl h1 ?_ hro
  simp only [Try.ntmps61, List.size_toArray, List.length_cons, List.length_nil, Nat.reduceAdd, Nat.reduceSub, Array.replicate_succ, Array.replicate_zero, List.push_toArray, List.append_toArray, List.nil_append, List.cons_append]
  gi_wp2
  go_ret
  exact ⟨rfl, rfl⟩

/-- What Backward hands back stops: the last byte first. -/
theorem back_stops (F : Fence) (m : Nat) (h1 : F.fn 63) (hro : F.round = none) (hm : 1 ≤ m) (Bx k5 N : Nat) (hx1 : Bx < N) (hx2 : Bx ≠ k5) (A : Option Addr) (n c : Nat) (xs : List UInt8) (w : World) (hN : N ≤ w.heap.size)
    (hc : w.cell? ⟨Bx, 0, none⟩ = some (.slice A n c)) (hb : Bb k5 N w A n c xs) :
    SeqStopsK F m Try.prog 63 #[.pointer (some ⟨Bx, 0, none⟩)] (fun x : Nat × UInt8 => #[Value.int .i64 (x.1 : Int), Value.int .u8 (x.2.toNat : Int)]) (KX k5 N) (fun ys => ys = upto (fun j => (n - 1 - j, xs.getD (n - 1 - j) 0)) n)
      (fun pre => ∃ k, k ≤ n ∧ pre = upto (fun j => (n - 1 - j, xs.getD (n - 1 - j) 0)) k) n w := fun l J Jx W hW _ _ hY h0 => by
  have hc' := (hW.cell (p := ⟨Bx, 0, none⟩) (show Bx < w.heap.size by omega)).trans hc
  exact back1_in F m h1 hro hm l Bx k5 N A n c xs hx1 hx2 J Jx hY W hc' (hb.keep (KX.of_below (hW.mono hN))) h0
end Go.Proofs.Ytenibcbodjkglaa
