/- slices.Backward over bytes: what it hands to a loop's body. After the kit's worked iterators over a slice. The walk of a reader's Get. The walk of a reader's Get where it is spoiled. -/
import Derived.RangeFuncNested
import Derived.RangeFuncBox
import Derived.RangeFuncBound
import Derived.RangeFuncCalls
import Derived.RangeFuncLeaves
import Derived.Shelf.Abstract
import Derived.Shelf.RegionOpen
import Derived.WalkKit
import Derived.OwnWalkIn
import Derived.TacticsInMore
import Derived.LoopNIn
import Derived.LoopIn
import Derived.Test.YtbjfklgmbeaaoaaZ1
import Derived.Test.YtbjfklgmbeaaoaaZ3
import Derived.Laws.Bits64b
set_option linter.unusedVariables false
set_option linter.unusedSimpArgs false
namespace Go.Proofs.Ytbjfklgmbeaaoaa
open Go.RowKit Go.Shelf
attribute [local go_sem] Oper.semAt_some

/-- What has come when k rounds are over. -/
def upto {α : Type} (f : Nat → α) (k : Nat) : List α := (List.range k).map f
theorem upto_succ {α : Type} (f : Nat → α) (k : Nat) : upto f (k + 1) = upto f k ++ [f k] := by simp [upto, List.range_succ]
theorem upto_length {α : Type} (f : Nat → α) (k : Nat) : (upto f k).length = k := by simp [upto]
/-- What lies below a place, but for one block, is as it was. -/
structure KX (k N : Nat) (W X : World) : Prop where
  block : ∀ i, i < N → i ≠ k → X.heap[i]? = W.heap[i]?
theorem KX.refl (k N : Nat) (W : World) : KX k N W W := ⟨fun _ _ _ => rfl⟩
theorem KX.trans {k N : Nat} {A B C : World} (h : KX k N A B) (h2 : KX k N B C) : KX k N A C := ⟨fun i hi hk => (h2.block i hi hk).trans (h.block i hi hk)⟩
theorem KX.of_below {k N : Nat} {A B : World} (h : Below N A B) : KX k N A B := ⟨fun i hi _ => h.block i hi⟩
theorem KX.put {k N : Nat} {w : World} (hN : N ≤ w.heap.size) (W : World) (l : Nat) (o o' : Obj) (hl : w.heap.size ≤ l) (h : W.heap[l]? = some o) (h1 : o.isCells = false) (h2 : o.isWalk = false) : KX k N W (W.putObj l o') :=
  KX.of_below (belowK_b hN W l o o' hl h h1 h2)
theorem KX.set {k N j : Nat} {W : World} (v : Value) : KX k N W (W.setCell ⟨k, j, none⟩ v) := ⟨fun i _ hk => Below.heap_setCell _ _ _ _ hk⟩
theorem KX.cell {k N : Nat} {A B : World} (h : KX k N A B) {a : Addr} (hN : a.block < N) (hk : a.block ≠ k) : B.cell? a = A.cell? a := World.cell?_of_block (h.block _ hN hk)
/-- A slice's bytes lie below a place, and not in one block. -/
structure Bb (k N : Nat) (W : World) (A : Option Addr) (n c : Nat) (xs : List UInt8) : Prop where
  bs : Bs W A n c xs
  lt : ∀ ad, A = some ad → 0 < n → ad.block < N ∧ ad.block ≠ k
theorem Bb.keep {k N : Nat} {W X : World} {A : Option Addr} {n c : Nat} {xs : List UInt8} (h : Bb k N W A n c xs) (hB : KX k N W X) : Bb k N X A n c xs :=
  ⟨⟨h.bs.len, h.bs.le, h.bs.cap, h.bs.lim, fun hn => by
    obtain ⟨ad, e, hc⟩ := h.bs.cells hn
    refine ⟨ad, e, fun j hj => ?_⟩
    have hb : (ad.add j).block = ad.block := by unfold Addr.add; split <;> rfl
    rw [← hc j hj]
    exact hB.cell (by rw [hb]; exact (h.lt ad e hn).1) (by rw [hb]; exact (h.lt ad e hn).2)⟩, h.lt⟩

set_option maxRecDepth 100000 in
set_option maxHeartbeats 2000000 in
theorem back1_in (F : Fence) (m : Nat) (h1 : F.fn 118) (hro : F.round = none) (hm : 1 ≤ m) (l Bx k5 N : Nat) (A : Option Addr) (n c : Nat) (xs : List UInt8) (hx1 : Bx < N) (hx2 : Bx ≠ k5) (J Jx : List (Nat × UInt8) → World → Prop)
    (hY : ∀ pre x W, J pre W → pre.length < n → YieldAt F (m - 1) Try.prog l #[.int .i64 (x.1 : Int), .int .u8 (x.2.toNat : Int)] W fun e W' =>
      (e = .returned (.bool true) ∧ J (pre ++ [x]) W' ∧ KX k5 N W W') ∨ (e = .returned (.bool false) ∧ Jx (pre ++ [x]) W'))
    (W : World) (hBs : W.cell? ⟨Bx, 0, none⟩ = some (.slice A n c)) (hb : Bb k5 N W A n c xs) (h0 : J [] W) :
    CallsIn F m Try.prog 118 #[.func (.yield l) #[] #[], .pointer (some ⟨Bx, 0, none⟩)] W fun e W' => (∃ v, e = .returned v) ∧
      ((∃ ys, ys = upto (fun j => (n - 1 - j, xs.getD (n - 1 - j) 0)) n ∧ J ys W') ∨ (∃ pre, (∃ k, k ≤ n ∧ pre = upto (fun j => (n - 1 - j, xs.getD (n - 1 - j) 0)) k) ∧ Jx pre W')) := by
  have hlim := hb.bs.lim
  refine callsIn_of_wp Try.func118 rfl h1 ?_ hro
  simp only [Try.ntmps118, List.size_toArray, List.length_cons, List.length_nil, Nat.reduceAdd, Nat.reduceSub, Array.replicate_succ, Array.replicate_zero, List.push_toArray, List.append_toArray, List.nil_append, List.cons_append]
  gi_wp2
  gi_loopw [3] (fun i wr => ∃ k : Nat, k ≤ n ∧ i = .int .i64 ((n : Int) - 1 - (k : Int)) ∧ J (upto (fun j => (n - 1 - j, xs.getD (n - 1 - j) 0)) k) wr ∧ KX k5 N W wr)
    (fun i _ => (intOf i + 1).toNat)
  case atStart => exact ⟨0, Nat.zero_le _, by simp, h0, KX.refl _ _ _⟩
  case round =>
    obtain ⟨k, hk, rfl, hJs, hnx⟩ := hrel
    have hbx : wr.cell? ⟨Bx, 0, none⟩ = some (.slice A n c) := (hnx.cell (a := ⟨Bx, 0, none⟩) hx1 hx2).trans hBs
    by_cases hlt : k < n
    · obtain ⟨p, hp⟩ : ∃ p, n - 1 - k = p := ⟨_, rfl⟩
      have hi : (n : Int) - 1 - (k : Int) = (p : Int) := by omega
      obtain ⟨fn, tmps, assign, body, hy, hR⟩ := hY _ (p, xs.getD p 0) wr hJs (by rw [upto_length]; exact hlt)
      dsimp only at hy
      obtain ⟨ad, rfl, hcx⟩ := (hb.keep hnx).bs.atN p (by omega)
      have hcx' : wr.cell? (ad.add p) = some (.int .u8 ((xs[p]?.getD 0).toNat : Int)) := by rw [hcx]; simp [b8, List.getD_eq_getElem?_getD]
      clear hcx
      rw [List.getD_eq_getElem?_getD] at hy
      have hpn : (p : Int) < (n : Int) := by omega
      rw [hi]
      gi_wp2
      refine hR.mono ?_
      rintro e W3 (⟨rfl, hJ3, hk3⟩ | ⟨rfl, hJx3⟩)
      · gi_wp2
        go_roundw
        case rel => exact ⟨k + 1, by omega, by go_num, by rw [upto_succ, hp]; exact hJ3, hnx.trans hk3⟩
        case measure => simp [intOf]
      · gi_wp2
        refine bodyPost_ret (results_none rfl _ _ _) rfl ?_
        exact ⟨⟨_, rfl⟩, .inr ⟨_, ⟨k + 1, by omega, by rw [upto_succ, hp]⟩, hJx3⟩⟩
    · obtain rfl : k = n := by omega
      have hneg : (k : Int) - 1 - (k : Int) = -1 := by omega
      rw [hneg]
      gi_wp2
      go_end0
      exact ⟨⟨_, rfl⟩, .inl ⟨_, rfl, hJs⟩⟩
set_option maxHeartbeats 1000000 in
/-- slices.Backward: the slice is boxed; the function value captures the box. -/
theorem back_in (F : Fence) (m : Nat) (h1 : F.fn 96) (hro : F.round = none) (a : Option Addr) (n c : Nat) (w : World) :
    CallsIn F m Try.prog 96 #[.slice a n c] w fun e w' => e = .returned (.func (.func 118) #[] #[.pointer (some ⟨w.heap.size, 0, none⟩)]) ∧ w' = w.alloc (.cells #[.slice a n c] 27) := by
  refine callsIn_of_wp Try.func96 rfl h1 ?_ hro
  simp only [Try.ntmps96, List.size_toArray, List.length_cons, List.length_nil, Nat.reduceAdd, Nat.reduceSub, Array.replicate_succ, Array.replicate_zero, List.push_toArray, List.append_toArray, List.nil_append, List.cons_append]
  gi_wp2
  go_ret
  exact ⟨rfl, rfl⟩

/-- What Backward hands back stops: the last byte first. -/
theorem back_stops (F : Fence) (m : Nat) (h1 : F.fn 118) (hro : F.round = none) (hm : 1 ≤ m) (Bx k5 N : Nat) (hx1 : Bx < N) (hx2 : Bx ≠ k5) (A : Option Addr) (n c : Nat) (xs : List UInt8) (w : World) (hN : N ≤ w.heap.size)
    (hc : w.cell? ⟨Bx, 0, none⟩ = some (.slice A n c)) (hb : Bb k5 N w A n c xs) :
    SeqStopsK F m Try.prog 118 #[.pointer (some ⟨Bx, 0, none⟩)] (fun x : Nat × UInt8 => #[Value.int .i64 (x.1 : Int), Value.int .u8 (x.2.toNat : Int)]) (KX k5 N) (fun ys => ys = upto (fun j => (n - 1 - j, xs.getD (n - 1 - j) 0)) n)
      (fun pre => ∃ k, k ≤ n ∧ pre = upto (fun j => (n - 1 - j, xs.getD (n - 1 - j) 0)) k) n w := fun l J Jx W hW _ _ hY h0 => by
  have hc' := (hW.cell (p := ⟨Bx, 0, none⟩) (show Bx < w.heap.size by omega)).trans hc
  exact back1_in F m h1 hro hm l Bx k5 N A n c xs hx1 hx2 J Jx hY W hc' (hb.keep (KX.of_below (hW.mono hN))) h0
end Go.Proofs.Ytbjfklgmbeaaoaa

set_option linter.unusedVariables false
set_option linter.unusedSimpArgs false
namespace Go.Proofs.Ytbjfklgmbeaaoaa
open Go.RowKit Go.Shelf
attribute [local go_sem] Oper.semAt_some

theorem OnlyB.put {g D : Nat} {w W : World} {o : Obj} (h : OnlyB g w W) (hD : w.heap.size ≤ D) (hK : W.heap[D]? = some o) (h1 : o.isCells = false) (h2 : o.isWalk = false) (o' : Obj) : OnlyB g w (W.putObj D o') := by
  have hb := belowK_b (w := w) (Nat.le_refl _) W D o o' hD hK h1 h2
  exact ⟨hb.os.trans h.os, hb.tape.trans h.tape, hb.output.trans h.output, Nat.le_trans h.size hb.size, fun i hi hn => (hb.block i hi).trans (h.block i hi hn)⟩
theorem Cur.put {W : World} {g D : Nat} {T : TypeId} {A : Option Addr} {n c a : Nat} {sp : Bool} {o : Obj} (h : Cur W g T A n c a sp) {w : World} (hg : g < w.heap.size) (hD : w.heap.size ≤ D) (hK : W.heap[D]? = some o) (h1 : o.isCells = false) (h2 : o.isWalk = false) (o' : Obj) : Cur (W.putObj D o') g T A n c a sp :=
  ⟨((belowK_b (w := w) (Nat.le_refl _) W D o o' hD hK h1 h2).block g hg).trans h.row, h.le, h.lim, h.nc⟩
theorem Cur.to {W : World} {g : Nat} {T : TypeId} {A : Option Addr} {n c a a' : Nat} {sp : Bool} (h : Cur W g T A n c a sp) (ha : a' ≤ n) : Cur (W.setCell ⟨g, 1, none⟩ (.int .i64 (a' : Int))) g T A n c a' sp :=
  ⟨by rw [heap_setCell_same W g 1 _ _ _ h.row]; rfl, ha, h.lim, h.nc⟩
theorem Cur.sp {W : World} {g : Nat} {T : TypeId} {A : Option Addr} {n c a : Nat} {sp : Bool} (h : Cur W g T A n c a sp) : Cur (W.setCell ⟨g, 2, none⟩ (.bool true)) g T A n c a true :=
  ⟨by rw [heap_setCell_same W g 2 _ _ _ h.row]; rfl, h.le, h.lim, h.nc⟩
/-- The number that bytes are, the last byte first. -/
def leN : List UInt8 → Nat
  | [] => 0
  | b :: t => b.toNat + 256 * leN t
def valB (pre : List (Nat × UInt8)) : Nat := pre.foldl (fun s p => s * 256 + p.2.toNat) 0
theorem valB_snoc (pre : List (Nat × UInt8)) (x : Nat × UInt8) : valB (pre ++ [x]) = valB pre * 256 + x.2.toNat := by simp [valB]
theorem valB_lt8 (pre : List (Nat × UInt8)) : valB pre < 256 ^ pre.length := by
  suffices h : ∀ (k : Nat) (pre : List (Nat × UInt8)), pre.length = k → valB pre < 256 ^ k from h _ pre rfl
  intro k
  induction k with
  | zero => intro pre h; obtain rfl := List.eq_nil_of_length_eq_zero h; simp [valB]
  | succ k ih =>
    intro pre h
    obtain ⟨ini, x, rfl⟩ : ∃ ini x, pre = ini ++ [x] := by
      have hne : pre ≠ [] := by intro e; subst e; cases h
      exact ⟨pre.dropLast, pre.getLast hne, (List.dropLast_concat_getLast hne).symm⟩
    have h1 := ih ini (by simpa using h)
    rw [valB_snoc, Nat.pow_succ]
    have := x.2.toNat_lt
    omega
theorem valB_upto (ys : List UInt8) (m : Nat) (h : ys.length = m) (k : Nat) (hk : k ≤ m) : valB (upto (fun j => (m - 1 - j, ys.getD (m - 1 - j) 0)) k) = leN (ys.drop (m - k)) := by
  induction k with
  | zero => rw [Nat.sub_zero, ← h, List.drop_length]; rfl
  | succ k ih =>
    have hd : ys.drop (m - (k + 1)) = ys.getD (m - 1 - k) 0 :: ys.drop (m - k) := by
      rw [List.drop_eq_getElem_cons (by omega), List.getD_eq_getElem?_getD, List.getElem?_eq_getElem (by omega), Option.getD_some]
      congr 1
      · congr 1; omega
      · congr 1; omega
    rw [upto_succ, valB_snoc, ih (by omega), hd, leN]
    dsimp only
    omega

theorem back_step (v b : Nat) (hv : v < 256 ^ 7) (hb : b < 256) : bits BinOp.or IntKind.u64 (IntKind.u64.wrap ((v : Int) * 256)) (IntKind.u64.wrap (b : Int)) = ((v * 256 + b : Nat) : Int) := by
  have e1 : IntKind.u64.wrap ((v : Int) * 256) = ((v * 256 : Nat) : Int) := by rw [IntKind.wrap_u64]; omega
  have e2 : IntKind.u64.wrap (b : Int) = (b : Int) := by rw [IntKind.wrap_u64]; omega
  rw [e1, e2, bits_or_u64_nat _ _ (by omega) (by omega)]
  have h := Nat.shiftLeft_add_eq_or_of_lt (b := b) (i := 8) (by omega) v
  rw [Nat.shiftLeft_eq, show (2 : Nat) ^ 8 = 256 from rfl] at h
  rw [h]

set_option maxRecDepth 100000 in
set_option maxHeartbeats 2000000 in
theorem get_ok (base g : Nat) (A : Option Addr) (n c a : Nat) (xs : List UInt8) (m : Nat) (w : World) (h : Cur w g 105 A n c a false) (hb : Bs w A n c xs) (hne : ∀ ad, A = some ad → 0 < n → ad.block ≠ g) (hm1 : 1 ≤ m) (hm8 : m ≤ 8) (hr : a + m ≤ n) :
    Calls Try.prog 59 #[.pointer (some ⟨g, 0, none⟩), .int .i64 (m : Int)] w fun e w' => OnlyB g w w' ∧
      ((leN ((xs.drop a).take m) ≤ 9223372036854775807 ∧ e = .returned (.int .i64 (leN ((xs.drop a).take m) : Int)) ∧ Cur w' g 105 A n c (a + m) false) ∨
       (9223372036854775807 < leN ((xs.drop a).take m) ∧ e = .returned (.int .i64 0) ∧ Cur w' g 105 A n c a true)) := by
  have f1 : decide ((m : Int) < 1) = false := decide_eq_false (by omega)
  have f2 : decide (8 < (m : Int)) = false := decide_eq_false (by omega)
  obtain ⟨V, hVV⟩ : ∃ V, leN ((xs.drop a).take m) = V := ⟨_, rfl⟩
  rw [hVV]
  have hlt := hb.lt
  have hgw : g < w.heap.size := (Array.getElem?_eq_some_iff.1 h.row).1
  have hb0 := (hb.drop a h.le).take m (by omega)
  have hV : ∀ ys, ys = upto (fun j => (m - 1 - j, ((xs.drop a).take m).getD (m - 1 - j) 0)) m → valB ys = V := by
    rintro ys rfl
    rw [valB_upto _ m hb0.len m (Nat.le_refl _), Nat.sub_self, List.drop_zero, hVV]
  refine (callsIn_wide (n := 6)).1 ?_
  have hF : ∀ k, Fence.wide.fn k := fun _ => trivial
  refine callsIn_of_wp_marks Try.func59 rfl (hF _) ?_ rfl
  simp only [Try.ntmps59, List.size_toArray, List.length_cons, List.length_nil, Nat.reduceAdd, Nat.reduceSub, Array.replicate_succ, Array.replicate_zero, List.push_toArray, List.append_toArray, List.nil_append, List.cons_append]
  have h' : Cur (w.alloc (.cells #[.int .u64 0] 146)) g 105 A n c a false := h.below ((Below.refl _ _).alloc (Nat.le_refl _) _)
  gi_wp2_with (first
    | (gi_at_call 97; refine (callsIn_wide.2 (next_any g _ A n c a false (m : Int) _ h')).mono ?_; rintro e w2 ⟨ho, hsz, ⟨q1, rfl, hc⟩ | ⟨q1, q2, q3, rfl, hc⟩⟩; (first | (exfalso; rcases q1 with q1 | q1 | q1 <;> (try cases q1) <;> omega) | skip))
    | (gi_at_call 96; refine (back_in Fence.wide 5 (hF _) rfl _ _ _ _).mono ?_; rintro e w3 ⟨rfl, rfl⟩))
  simp only [Int.toNat_natCast] at hc q3
  have hbx : w2.heap[w.heap.size]? = some (.cells #[.int .u64 0] 146) := (ho.block w.heap.size (by simp) (by omega)).trans (heap_alloc_new _ _)
  have hs2 : w2.heap.size = w.heap.size + 1 := by rw [hsz]; simp
  have hb2 : Bs w2 (cutA A c a) m (c - a) ((xs.drop a).take m) := (((hb.alloc _).only ho hne).drop a h.le).take m (by omega)
  have bS : Boxed w2 w.heap.size 146 (.int .u64 0) := hbx
  have bN := Boxed.new w2 27 (.slice (cutA A c a) m (c - a))
  rw [hs2] at bN
  have hb3 : Bb w.heap.size (w.heap.size + 2) (w2.alloc (.cells #[.slice (cutA A c a) m (c - a)] 27)) (cutA A c a) m (c - a) ((xs.drop a).take m) :=
    ⟨hb2.alloc _, fun ad e hn => by have := hb0.lt ad e hn; omega⟩
  have HO := Aside0.mk ho
  have HC := Aside0.mk hc
  clear ho hc
  obtain ⟨W3, hW3⟩ : ∃ W3, w2.alloc (.cells #[.slice (cutA A c a) m (c - a)] 27) = W3 := ⟨_, rfl⟩
  have hs3 : W3.heap.size = w.heap.size + 2 := by rw [← hW3]; simp [hs2]
  have hB3 : Below w2.heap.size w2 W3 := by rw [← hW3]; exact (Below.refl _ _).alloc (Nat.le_refl _) _
  have bS3 : Boxed W3 w.heap.size 146 (.int .u64 0) := by rw [← hW3]; exact bS.alloc _
  rw [hW3] at bN hb3
  rw [hW3]
  clear hW3
  refine wpIn_rangeFunc_ownG (F := Fence.wide) (n := 6) rfl (by decide) (gf := 118) (lb := #[.pointer (some ⟨w.heap.size + 1, 0, none⟩)]) rfl (hF _) (enters_of Try.func118 (by kernel_rfl) rfl)
    (back_stops Fence.wide 5 (hF _) rfl (by decide) (w.heap.size + 1) w.heap.size (w.heap.size + 2) (by omega) (by omega) _ _ _ _ W3 (by omega) bN.cell hb3)
    KX.trans (KX.put (w := W3) (by omega)) (Below.refl _ _) (fun _ => rfl)
    (fun pre W => (W.cell? ⟨w.heap.size, 0, none⟩ = some (.int .u64 (valB pre : Int)) ∧ W.frozen? ⟨w.heap.size, 0, none⟩ = false) ∧ Below w.heap.size W3 W)
    (fun _ _ _ => False)
    (OwnFrom.and (Own.from (fun s A B row hs hg hr => ⟨cell_kept hs.1 hg hr, (frozen_kept hs.1 hg hr).trans hs.2⟩) _) (ownFrom_below (by omega) (by omega)))
    (fun _ _ _ _ _ hs _ _ => hs)
    ⟨⟨bS3.cell, bS3.frozen⟩, Below.refl _ _⟩
    (fun x => { tmps :=
        #[Value.pointer (some { block := g, off := 0 }), Value.int IntKind.i64 ↑m, undef, undef,
          Value.int IntKind.i64 0, Value.pointer (some { block := w.heap.size, off := 0 }), undef, .int .u8 (x.2.toNat : Int),
          Value.int IntKind.i64 ↑m, Value.bool false, Value.bool false, Value.int IntKind.i64 ↑m, Value.bool false,
          Value.bool false, undef, undef, undef, undef, Value.pointer (some { block := g, off := 0 }),
          Value.pointer (some { block := g, off := 0 }), Value.pointer (some { block := g, off := 0 }),
          Value.int IntKind.i64 ↑m, Value.slice (cutA A c a) m (c - a),
          Value.func (Fn.func 118) #[] #[Value.pointer (some { block := w.heap.size + 1, off := 0 })], .int .i64 (x.1 : Int), .int .u8 (x.2.toNat : Int),
          undef, undef, undef, undef, undef, undef, undef, undef, undef, undef, undef, undef, undef, undef, undef,
          undef, undef, undef, undef, undef, undef, undef, undef], defers := [] }) ?assign ?body ?done ?stop
  case assign =>
    intro l x W K hK
    gi_wp2
    exact hK
  case body =>
    rintro l pre x W ⟨⟨hcc, hff⟩, hBB⟩ hlen
    have hst := back_step (valB pre) x.2.toNat (Nat.lt_of_lt_of_le (valB_lt8 pre) (Nat.pow_le_pow_right (by decide) (by omega))) x.2.toNat_lt
    have hv2 : ((valB (pre ++ [x]) : Nat) : Int) = (valB pre : Int) * 256 + (x.2.toNat : Int) := by rw [valB_snoc, Int.natCast_add, Int.natCast_mul]; rfl
    gi_wp2
    exact ⟨(KeepsOthers.setCell _ _ _).from _, KX.set _, ⟨by rw [hv2]; exact World.cell?_setCell_same' _ _ _ (by rw [hcc]; rfl), by rw [World.frozen?_setCell]; exact hff⟩, hBB.setCell (p := ⟨w.heap.size, 0, none⟩) (Nat.le_refl _) _⟩
  case done =>
    rintro D ys W hD hys ⟨⟨hcc, hff⟩, hBB⟩ hK
    rw [hV ys hys] at hcc
    have hcur : Cur W g 105 A n c (a + m) false := ⟨(hBB.block g hgw).trans ((hB3.block g (by omega)).trans HC.out.row), HC.out.le, HC.out.lim, HC.out.nc⟩
    have hOW : OnlyB g w W := by
      have h1 := (OnlyB.of_below (g := g) ((Below.refl w.heap.size w).alloc (Nat.le_refl _) (.cells #[.int .u64 0] 146))).trans (HO.out.trans (OnlyB.of_below hB3))
      exact ⟨hBB.os.trans h1.os, hBB.tape.trans h1.tape, hBB.output.trans h1.output, Nat.le_trans h1.size hBB.size, fun i hi hn => (hBB.block i hi).trans (h1.block i hi hn)⟩
    obtain ⟨v0, v1, v2⟩ := hcur.cells
    have t0 := hcur.thaw
    have HCu := Aside0.mk hcur
    have HOW := Aside0.mk hOW
    clear hcur hOW hBB hys
    have hgD : g ≠ D := by omega
    by_cases hbig : 9223372036854775807 < V
    · have fb : decide ((9223372036854775807 : Int) < (V : Int)) = true := decide_eq_true (by omega)
      have hwa : wrap64 (a : Int) = (a : Int) := by have := h.le; have := h.lim; unfold wrap64; omega
      gi_wp2
      rw [hwa]
      have hK2 := (KeepsOthers.setCell (W.setCell ⟨g, 2, none⟩ (.bool true)) ⟨g, 1, none⟩ (.int .i64 (a : Int))).same D _ ((KeepsOthers.setCell W ⟨g, 2, none⟩ (.bool true)).same D _ hK rfl) rfl
      refine ⟨by simp, .inl ⟨_, _, rfl, run_takeDeferred hK2, ?_⟩⟩
      refine ⟨_, results_tmp rfl _ _ _, ?_, .inr ⟨hbig, rfl, ?_⟩⟩
      · exact ((HOW.out.set 2 _).set 1 _).put (by omega) hK2 rfl rfl _
      · exact (HCu.out.sp.to h.le).put hgw (by omega) hK2 rfl rfl _
    · have fb : decide ((9223372036854775807 : Int) < (V : Int)) = false := decide_eq_false (by omega)
      gi_wp2
      refine ⟨by simp, .inl ⟨_, _, rfl, run_takeDeferred hK, ?_⟩⟩
      refine ⟨_, results_tmp rfl _ _ _, ?_, .inl ⟨by omega, rfl, ?_⟩⟩
      · exact HOW.out.put (by omega) hK rfl rfl _
      · exact HCu.out.put hgw (by omega) hK rfl rfl _
  case stop =>
    rintro D ca pre W _ _ hx _
    exact hx.elim
end Go.Proofs.Ytbjfklgmbeaaoaa

set_option linter.unusedVariables false
set_option linter.unusedSimpArgs false
namespace Go.Proofs.Ytbjfklgmbeaaoaa
open Go.RowKit Go.Shelf
attribute [local go_sem] Oper.semAt_some

set_option maxRecDepth 100000 in
set_option maxHeartbeats 2000000 in
theorem get_lo (g : Nat) (A : Option Addr) (n c a : Nat) (sp : Bool) (m : Int) (w : World) (h : Cur w g 105 A n c a sp) (hm : m < 1) :
    Calls Try.prog 59 #[.pointer (some ⟨g, 0, none⟩), .int .i64 m] w fun e w' => OnlyB g w w' ∧ e = .returned (.int .i64 0) ∧ Cur w' g 105 A n c a true := by
  have f1 : decide (m < 1) = true := decide_eq_true hm
  obtain ⟨z0, z1, z2⟩ := h.cells
  have z3 := h.thaw
  have hgw : g < w.heap.size := (Array.getElem?_eq_some_iff.1 h.row).1
  refine (callsIn_wide (n := 6)).1 ?_
  have hF : ∀ k, Fence.wide.fn k := fun _ => trivial
  refine callsIn_of_wp_marks Try.func59 rfl (hF _) ?_ rfl
  simp only [Try.ntmps59, List.size_toArray, List.length_cons, List.length_nil, Nat.reduceAdd, Nat.reduceSub, Array.replicate_succ, Array.replicate_zero, List.push_toArray, List.append_toArray, List.nil_append, List.cons_append]
  have h0 : Cur (w.setCell ⟨g, 2, none⟩ (.bool true)) g 105 A n c a true := h.sp
  have hs0 : (w.setCell ⟨g, 2, none⟩ (.bool true)).heap.size = w.heap.size := by simp
  have hO0 : OnlyB g w (w.setCell ⟨g, 2, none⟩ (.bool true)) := (OnlyB.refl g w).set 2 _
  have h' : Cur ((w.setCell ⟨g, 2, none⟩ (.bool true)).alloc (.cells #[.int .u64 0] 146)) g 105 A n c a true := h0.below ((Below.refl _ _).alloc (Nat.le_refl _) _)
  have hO0 := Aside0.mk hO0
  have hs0 := Aside0.mk hs0
  have h0 := Aside0.mk h0
  have hno := Aside0.mk (show true = false → 0 ≤ m → a + m.toNat ≤ n → False from by simp)
  clear h
  gi_wp2_with (first
    | (gi_at_call 97; refine (callsIn_wide.2 (next_any g _ A n c a true m _ h')).mono ?_; rintro e w2 ⟨ho, hsz, ⟨q1, rfl, hc⟩ | ⟨q1, q2, q3, rfl, hc⟩⟩ <;> (first | (have q4 := hno.out q1 q2 q3; exact q4.elim) | skip))
    | (gi_at_call 96; refine (back_in Fence.wide 5 (hF _) rfl _ _ _ _).mono ?_; rintro e w3 ⟨rfl, rfl⟩))
  have hs1 : ((w.setCell ⟨g, 2, none⟩ (.bool true)).alloc (.cells #[.int .u64 0] 146)).heap.size = w.heap.size + 1 := (World.size_alloc ..).trans (congrArg (· + 1) hs0.out)
  have hs2 : w2.heap.size = w.heap.size + 1 := by rw [hsz, hs1]
  have hbx : w2.heap[w.heap.size]? = some (.cells #[.int .u64 0] 146) := by
    refine (ho.block w.heap.size (by omega) (by omega)).trans ?_
    have := heap_alloc_new (w.setCell ⟨g, 2, none⟩ (.bool true)) (.cells #[.int .u64 0] 146)
    rwa [hs0.out] at this
  have bS : Boxed w2 w.heap.size 146 (.int .u64 0) := hbx
  have bN := Boxed.new w2 27 (.slice none 0 0)
  rw [hs2] at bN
  have hb3 : Bb w.heap.size (w.heap.size + 2) (w2.alloc (.cells #[.slice none 0 0] 27)) none 0 0 [] :=
    ⟨Bs.nil _ _ _ (by omega), fun ad e hn => by omega⟩
  have HO := Aside0.mk ho
  have HC := Aside0.mk hc
  clear ho hc
  obtain ⟨W3, hW3⟩ : ∃ W3, w2.alloc (.cells #[.slice none 0 0] 27) = W3 := ⟨_, rfl⟩
  have hs3 : W3.heap.size = w.heap.size + 2 := by rw [← hW3]; simp [hs2]
  have hB3 : Below w2.heap.size w2 W3 := by rw [← hW3]; exact (Below.refl _ _).alloc (Nat.le_refl _) _
  have bS3 : Boxed W3 w.heap.size 146 (.int .u64 0) := by rw [← hW3]; exact bS.alloc _
  rw [hW3] at bN hb3
  rw [hW3]
  clear hW3
  refine wpIn_rangeFunc_ownG (F := Fence.wide) (n := 6) rfl (by decide) (gf := 118) (lb := #[.pointer (some ⟨w.heap.size + 1, 0, none⟩)]) rfl (hF _) (enters_of Try.func118 (by kernel_rfl) rfl)
    (back_stops Fence.wide 5 (hF _) rfl (by decide) (w.heap.size + 1) w.heap.size (w.heap.size + 2) (by omega) (by omega) _ _ _ _ W3 (by omega) bN.cell hb3)
    KX.trans (KX.put (w := W3) (by omega)) (Below.refl _ _) (fun _ => rfl)
    (fun pre W => (W.cell? ⟨w.heap.size, 0, none⟩ = some (.int .u64 (valB pre : Int)) ∧ W.frozen? ⟨w.heap.size, 0, none⟩ = false) ∧ Below w.heap.size W3 W)
    (fun _ _ _ => False)
    (OwnFrom.and (Own.from (fun s A B row hs hg hr => ⟨cell_kept hs.1 hg hr, (frozen_kept hs.1 hg hr).trans hs.2⟩) _) (ownFrom_below (by omega) (by omega)))
    (fun _ _ _ _ _ hs _ _ => hs)
    ⟨⟨bS3.cell, bS3.frozen⟩, Below.refl _ _⟩
    (fun x => { tmps :=
        #[Value.pointer (some { block := g, off := 0 }), Value.int IntKind.i64 m, undef, undef,
          Value.int IntKind.i64 0, Value.pointer (some { block := w.heap.size, off := 0 }), undef, .int .u8 (x.2.toNat : Int),
          Value.int IntKind.i64 m, Value.bool true, Value.bool true, undef, undef, Value.bool true, Value.pointer (some { block := g, off := 0 }), Value.pointer (some { block := g, off := 0 }), Value.pointer (some { block := g, off := 0 }), Value.pointer (some { block := g, off := 2 }), Value.pointer (some { block := g, off := 0 }), Value.pointer (some { block := g, off := 0 }), Value.pointer (some { block := g, off := 0 }),
          Value.int IntKind.i64 m, Value.slice none 0 0,
          Value.func (Fn.func 118) #[] #[Value.pointer (some { block := w.heap.size + 1, off := 0 })], .int .i64 (x.1 : Int), .int .u8 (x.2.toNat : Int),
          undef, undef, undef, undef, undef, undef, undef, undef, undef, undef, undef, undef, undef, undef, undef, undef, undef, undef, undef, undef, undef, undef, undef], defers := [] }) ?assign ?body ?done ?stop
  case assign =>
    intro l x W K hK
    gi_wp2
    exact hK
  case body =>
    rintro l pre x W ⟨⟨hcc, hff⟩, hBB⟩ hlen
    exact absurd hlen (Nat.not_lt_zero _)
  case done =>
    rintro D ys W hD hys ⟨⟨hcc, hff⟩, hBB⟩ hK
    have hys0 : ys = [] := hys
    rw [hys0] at hcc
    have hcc0 : W.cell? ⟨w.heap.size, 0, none⟩ = some (.int .u64 0) := hcc
    have hcur : Cur W g 105 A n c a true := ⟨(hBB.block g hgw).trans ((hB3.block g (by omega)).trans HC.out.row), HC.out.le, HC.out.lim, HC.out.nc⟩
    have hOW : OnlyB g w W := by
      have h1 := hO0.out.trans ((OnlyB.of_below (g := g) ((Below.refl (w.setCell ⟨g, 2, none⟩ (.bool true)).heap.size (w.setCell ⟨g, 2, none⟩ (.bool true))).alloc (Nat.le_refl _) (.cells #[.int .u64 0] 146))).trans (HO.out.trans (OnlyB.of_below hB3)))
      exact ⟨hBB.os.trans h1.os, hBB.tape.trans h1.tape, hBB.output.trans h1.output, Nat.le_trans h1.size hBB.size, fun i hi hn => (hBB.block i hi).trans (h1.block i hi hn)⟩
    have HCu := Aside0.mk hcur
    have HOW := Aside0.mk hOW
    clear hcur hOW hBB hys hcc
    gi_wp2
    refine ⟨by simp, .inl ⟨_, _, rfl, run_takeDeferred hK, ?_⟩⟩
    refine ⟨_, results_tmp rfl _ _ _, ?_, rfl, ?_⟩
    · exact HOW.out.put (by omega) hK rfl rfl _
    · exact HCu.out.put hgw (by omega) hK rfl rfl _
  case stop =>
    rintro D ca pre W _ _ hx _
    exact hx.elim

set_option maxRecDepth 100000 in
set_option maxHeartbeats 2000000 in
theorem get_hi (g : Nat) (A : Option Addr) (n c a : Nat) (sp : Bool) (m : Int) (w : World) (h : Cur w g 105 A n c a sp) (hm : 8 < m) :
    Calls Try.prog 59 #[.pointer (some ⟨g, 0, none⟩), .int .i64 m] w fun e w' => OnlyB g w w' ∧ e = .returned (.int .i64 0) ∧ Cur w' g 105 A n c a true := by
  have f1 : decide (m < 1) = false := decide_eq_false (by omega)
  have f2 : decide (8 < m) = true := decide_eq_true hm
  obtain ⟨z0, z1, z2⟩ := h.cells
  have z3 := h.thaw
  have hgw : g < w.heap.size := (Array.getElem?_eq_some_iff.1 h.row).1
  refine (callsIn_wide (n := 6)).1 ?_
  have hF : ∀ k, Fence.wide.fn k := fun _ => trivial
  refine callsIn_of_wp_marks Try.func59 rfl (hF _) ?_ rfl
  simp only [Try.ntmps59, List.size_toArray, List.length_cons, List.length_nil, Nat.reduceAdd, Nat.reduceSub, Array.replicate_succ, Array.replicate_zero, List.push_toArray, List.append_toArray, List.nil_append, List.cons_append]
  have h0 : Cur (w.setCell ⟨g, 2, none⟩ (.bool true)) g 105 A n c a true := h.sp
  have hs0 : (w.setCell ⟨g, 2, none⟩ (.bool true)).heap.size = w.heap.size := by simp
  have hO0 : OnlyB g w (w.setCell ⟨g, 2, none⟩ (.bool true)) := (OnlyB.refl g w).set 2 _
  have h' : Cur ((w.setCell ⟨g, 2, none⟩ (.bool true)).alloc (.cells #[.int .u64 0] 146)) g 105 A n c a true := h0.below ((Below.refl _ _).alloc (Nat.le_refl _) _)
  have hO0 := Aside0.mk hO0
  have hs0 := Aside0.mk hs0
  have h0 := Aside0.mk h0
  have hno := Aside0.mk (show true = false → 0 ≤ m → a + m.toNat ≤ n → False from by simp)
  clear h
  gi_wp2_with (first
    | (gi_at_call 97; refine (callsIn_wide.2 (next_any g _ A n c a true m _ h')).mono ?_; rintro e w2 ⟨ho, hsz, ⟨q1, rfl, hc⟩ | ⟨q1, q2, q3, rfl, hc⟩⟩ <;> (first | (have q4 := hno.out q1 q2 q3; exact q4.elim) | skip))
    | (gi_at_call 96; refine (back_in Fence.wide 5 (hF _) rfl _ _ _ _).mono ?_; rintro e w3 ⟨rfl, rfl⟩))
  have hs1 : ((w.setCell ⟨g, 2, none⟩ (.bool true)).alloc (.cells #[.int .u64 0] 146)).heap.size = w.heap.size + 1 := (World.size_alloc ..).trans (congrArg (· + 1) hs0.out)
  have hs2 : w2.heap.size = w.heap.size + 1 := by rw [hsz, hs1]
  have hbx : w2.heap[w.heap.size]? = some (.cells #[.int .u64 0] 146) := by
    refine (ho.block w.heap.size (by omega) (by omega)).trans ?_
    have := heap_alloc_new (w.setCell ⟨g, 2, none⟩ (.bool true)) (.cells #[.int .u64 0] 146)
    rwa [hs0.out] at this
  have bS : Boxed w2 w.heap.size 146 (.int .u64 0) := hbx
  have bN := Boxed.new w2 27 (.slice none 0 0)
  rw [hs2] at bN
  have hb3 : Bb w.heap.size (w.heap.size + 2) (w2.alloc (.cells #[.slice none 0 0] 27)) none 0 0 [] :=
    ⟨Bs.nil _ _ _ (by omega), fun ad e hn => by omega⟩
  have HO := Aside0.mk ho
  have HC := Aside0.mk hc
  clear ho hc
  obtain ⟨W3, hW3⟩ : ∃ W3, w2.alloc (.cells #[.slice none 0 0] 27) = W3 := ⟨_, rfl⟩
  have hs3 : W3.heap.size = w.heap.size + 2 := by rw [← hW3]; simp [hs2]
  have hB3 : Below w2.heap.size w2 W3 := by rw [← hW3]; exact (Below.refl _ _).alloc (Nat.le_refl _) _
  have bS3 : Boxed W3 w.heap.size 146 (.int .u64 0) := by rw [← hW3]; exact bS.alloc _
  rw [hW3] at bN hb3
  rw [hW3]
  clear hW3
  refine wpIn_rangeFunc_ownG (F := Fence.wide) (n := 6) rfl (by decide) (gf := 118) (lb := #[.pointer (some ⟨w.heap.size + 1, 0, none⟩)]) rfl (hF _) (enters_of Try.func118 (by kernel_rfl) rfl)
    (back_stops Fence.wide 5 (hF _) rfl (by decide) (w.heap.size + 1) w.heap.size (w.heap.size + 2) (by omega) (by omega) _ _ _ _ W3 (by omega) bN.cell hb3)
    KX.trans (KX.put (w := W3) (by omega)) (Below.refl _ _) (fun _ => rfl)
    (fun pre W => (W.cell? ⟨w.heap.size, 0, none⟩ = some (.int .u64 (valB pre : Int)) ∧ W.frozen? ⟨w.heap.size, 0, none⟩ = false) ∧ Below w.heap.size W3 W)
    (fun _ _ _ => False)
    (OwnFrom.and (Own.from (fun s A B row hs hg hr => ⟨cell_kept hs.1 hg hr, (frozen_kept hs.1 hg hr).trans hs.2⟩) _) (ownFrom_below (by omega) (by omega)))
    (fun _ _ _ _ _ hs _ _ => hs)
    ⟨⟨bS3.cell, bS3.frozen⟩, Below.refl _ _⟩
    (fun x => { tmps :=
        #[Value.pointer (some { block := g, off := 0 }), Value.int IntKind.i64 m, undef, undef,
          Value.int IntKind.i64 0, Value.pointer (some { block := w.heap.size, off := 0 }), undef, .int .u8 (x.2.toNat : Int),
          Value.int IntKind.i64 m, Value.bool false, Value.bool false, Value.int IntKind.i64 m, Value.bool true, Value.bool true, Value.pointer (some { block := g, off := 0 }), Value.pointer (some { block := g, off := 0 }), Value.pointer (some { block := g, off := 0 }), Value.pointer (some { block := g, off := 2 }), Value.pointer (some { block := g, off := 0 }), Value.pointer (some { block := g, off := 0 }), Value.pointer (some { block := g, off := 0 }),
          Value.int IntKind.i64 m, Value.slice none 0 0,
          Value.func (Fn.func 118) #[] #[Value.pointer (some { block := w.heap.size + 1, off := 0 })], .int .i64 (x.1 : Int), .int .u8 (x.2.toNat : Int),
          undef, undef, undef, undef, undef, undef, undef, undef, undef, undef, undef, undef, undef, undef, undef, undef, undef, undef, undef, undef, undef, undef, undef], defers := [] }) ?assign ?body ?done ?stop
  case assign =>
    intro l x W K hK
    gi_wp2
    exact hK
  case body =>
    rintro l pre x W ⟨⟨hcc, hff⟩, hBB⟩ hlen
    exact absurd hlen (Nat.not_lt_zero _)
  case done =>
    rintro D ys W hD hys ⟨⟨hcc, hff⟩, hBB⟩ hK
    have hys0 : ys = [] := hys
    rw [hys0] at hcc
    have hcc0 : W.cell? ⟨w.heap.size, 0, none⟩ = some (.int .u64 0) := hcc
    have hcur : Cur W g 105 A n c a true := ⟨(hBB.block g hgw).trans ((hB3.block g (by omega)).trans HC.out.row), HC.out.le, HC.out.lim, HC.out.nc⟩
    have hOW : OnlyB g w W := by
      have h1 := hO0.out.trans ((OnlyB.of_below (g := g) ((Below.refl (w.setCell ⟨g, 2, none⟩ (.bool true)).heap.size (w.setCell ⟨g, 2, none⟩ (.bool true))).alloc (Nat.le_refl _) (.cells #[.int .u64 0] 146))).trans (HO.out.trans (OnlyB.of_below hB3)))
      exact ⟨hBB.os.trans h1.os, hBB.tape.trans h1.tape, hBB.output.trans h1.output, Nat.le_trans h1.size hBB.size, fun i hi hn => (hBB.block i hi).trans (h1.block i hi hn)⟩
    have HCu := Aside0.mk hcur
    have HOW := Aside0.mk hOW
    clear hcur hOW hBB hys hcc
    gi_wp2
    refine ⟨by simp, .inl ⟨_, _, rfl, run_takeDeferred hK, ?_⟩⟩
    refine ⟨_, results_tmp rfl _ _ _, ?_, rfl, ?_⟩
    · exact HOW.out.put (by omega) hK rfl rfl _
    · exact HCu.out.put hgw (by omega) hK rfl rfl _
  case stop =>
    rintro D ca pre W _ _ hx _
    exact hx.elim

set_option maxRecDepth 100000 in
set_option maxHeartbeats 2000000 in
theorem get_no (g : Nat) (A : Option Addr) (n c a : Nat) (sp : Bool) (m : Int) (w : World) (h : Cur w g 105 A n c a sp) (h1 : 1 ≤ m) (h8 : m ≤ 8) (hm : sp = true ∨ (n : Int) - a < m) :
    Calls Try.prog 59 #[.pointer (some ⟨g, 0, none⟩), .int .i64 m] w fun e w' => OnlyB g w w' ∧ e = .returned (.int .i64 0) ∧ Cur w' g 105 A n c a true := by
  have f1 : decide (m < 1) = false := decide_eq_false (by omega)
  have f2 : decide (8 < m) = false := decide_eq_false (by omega)
  obtain ⟨z0, z1, z2⟩ := h.cells
  have z3 := h.thaw
  have hgw : g < w.heap.size := (Array.getElem?_eq_some_iff.1 h.row).1
  refine (callsIn_wide (n := 6)).1 ?_
  have hF : ∀ k, Fence.wide.fn k := fun _ => trivial
  refine callsIn_of_wp_marks Try.func59 rfl (hF _) ?_ rfl
  simp only [Try.ntmps59, List.size_toArray, List.length_cons, List.length_nil, Nat.reduceAdd, Nat.reduceSub, Array.replicate_succ, Array.replicate_zero, List.push_toArray, List.append_toArray, List.nil_append, List.cons_append]
  have h0 : Cur (w) g 105 A n c a sp := h
  have hs0 : (w).heap.size = w.heap.size := by simp
  have hO0 : OnlyB g w (w) := OnlyB.refl g w
  have h' : Cur ((w).alloc (.cells #[.int .u64 0] 146)) g 105 A n c a sp := h0.below ((Below.refl _ _).alloc (Nat.le_refl _) _)
  have hO0 := Aside0.mk hO0
  have h0 := Aside0.mk h0
  have hno := Aside0.mk (show sp = false → 0 ≤ m → a + m.toNat ≤ n → False from by rintro rfl k1 k2; rcases hm with hm | hm; cases hm; omega)
  clear h
  gi_wp2_with (first
    | (gi_at_call 97; refine (callsIn_wide.2 (next_any g _ A n c a sp m _ h')).mono ?_; rintro e w2 ⟨ho, hsz, ⟨q1, rfl, hc⟩ | ⟨q1, q2, q3, rfl, hc⟩⟩ <;> (first | (have q4 := hno.out q1 q2 q3; exact q4.elim) | skip))
    | (gi_at_call 96; refine (back_in Fence.wide 5 (hF _) rfl _ _ _ _).mono ?_; rintro e w3 ⟨rfl, rfl⟩))
  have hs1 : ((w).alloc (.cells #[.int .u64 0] 146)).heap.size = w.heap.size + 1 := (World.size_alloc ..).trans (congrArg (· + 1) rfl)
  have hs2 : w2.heap.size = w.heap.size + 1 := by rw [hsz, hs1]
  have hbx : w2.heap[w.heap.size]? = some (.cells #[.int .u64 0] 146) := by
    refine (ho.block w.heap.size (by omega) (by omega)).trans ?_
    have := heap_alloc_new (w) (.cells #[.int .u64 0] 146)
    exact this
  have bS : Boxed w2 w.heap.size 146 (.int .u64 0) := hbx
  have bN := Boxed.new w2 27 (.slice none 0 0)
  rw [hs2] at bN
  have hb3 : Bb w.heap.size (w.heap.size + 2) (w2.alloc (.cells #[.slice none 0 0] 27)) none 0 0 [] :=
    ⟨Bs.nil _ _ _ (by omega), fun ad e hn => by omega⟩
  have HO := Aside0.mk ho
  have HC := Aside0.mk hc
  clear ho hc
  obtain ⟨W3, hW3⟩ : ∃ W3, w2.alloc (.cells #[.slice none 0 0] 27) = W3 := ⟨_, rfl⟩
  have hs3 : W3.heap.size = w.heap.size + 2 := by rw [← hW3]; simp [hs2]
  have hB3 : Below w2.heap.size w2 W3 := by rw [← hW3]; exact (Below.refl _ _).alloc (Nat.le_refl _) _
  have bS3 : Boxed W3 w.heap.size 146 (.int .u64 0) := by rw [← hW3]; exact bS.alloc _
  rw [hW3] at bN hb3
  rw [hW3]
  clear hW3
  refine wpIn_rangeFunc_ownG (F := Fence.wide) (n := 6) rfl (by decide) (gf := 118) (lb := #[.pointer (some ⟨w.heap.size + 1, 0, none⟩)]) rfl (hF _) (enters_of Try.func118 (by kernel_rfl) rfl)
    (back_stops Fence.wide 5 (hF _) rfl (by decide) (w.heap.size + 1) w.heap.size (w.heap.size + 2) (by omega) (by omega) _ _ _ _ W3 (by omega) bN.cell hb3)
    KX.trans (KX.put (w := W3) (by omega)) (Below.refl _ _) (fun _ => rfl)
    (fun pre W => (W.cell? ⟨w.heap.size, 0, none⟩ = some (.int .u64 (valB pre : Int)) ∧ W.frozen? ⟨w.heap.size, 0, none⟩ = false) ∧ Below w.heap.size W3 W)
    (fun _ _ _ => False)
    (OwnFrom.and (Own.from (fun s A B row hs hg hr => ⟨cell_kept hs.1 hg hr, (frozen_kept hs.1 hg hr).trans hs.2⟩) _) (ownFrom_below (by omega) (by omega)))
    (fun _ _ _ _ _ hs _ _ => hs)
    ⟨⟨bS3.cell, bS3.frozen⟩, Below.refl _ _⟩
    (fun x => { tmps :=
        #[Value.pointer (some { block := g, off := 0 }), Value.int IntKind.i64 m, undef, undef,
          Value.int IntKind.i64 0, Value.pointer (some { block := w.heap.size, off := 0 }), undef, .int .u8 (x.2.toNat : Int),
          Value.int IntKind.i64 m, Value.bool false, Value.bool false, Value.int IntKind.i64 m, Value.bool false, Value.bool false, undef, undef, undef, undef, Value.pointer (some { block := g, off := 0 }), Value.pointer (some { block := g, off := 0 }), Value.pointer (some { block := g, off := 0 }),
          Value.int IntKind.i64 m, Value.slice none 0 0,
          Value.func (Fn.func 118) #[] #[Value.pointer (some { block := w.heap.size + 1, off := 0 })], .int .i64 (x.1 : Int), .int .u8 (x.2.toNat : Int),
          undef, undef, undef, undef, undef, undef, undef, undef, undef, undef, undef, undef, undef, undef, undef, undef, undef, undef, undef, undef, undef, undef, undef], defers := [] }) ?assign ?body ?done ?stop
  case assign =>
    intro l x W K hK
    gi_wp2
    exact hK
  case body =>
    rintro l pre x W ⟨⟨hcc, hff⟩, hBB⟩ hlen
    exact absurd hlen (Nat.not_lt_zero _)
  case done =>
    rintro D ys W hD hys ⟨⟨hcc, hff⟩, hBB⟩ hK
    have hys0 : ys = [] := hys
    rw [hys0] at hcc
    have hcc0 : W.cell? ⟨w.heap.size, 0, none⟩ = some (.int .u64 0) := hcc
    have hcur : Cur W g 105 A n c a true := ⟨(hBB.block g hgw).trans ((hB3.block g (by omega)).trans HC.out.row), HC.out.le, HC.out.lim, HC.out.nc⟩
    have hOW : OnlyB g w W := by
      have h1 := hO0.out.trans ((OnlyB.of_below (g := g) ((Below.refl (w).heap.size (w)).alloc (Nat.le_refl _) (.cells #[.int .u64 0] 146))).trans (HO.out.trans (OnlyB.of_below hB3)))
      exact ⟨hBB.os.trans h1.os, hBB.tape.trans h1.tape, hBB.output.trans h1.output, Nat.le_trans h1.size hBB.size, fun i hi hn => (hBB.block i hi).trans (h1.block i hi hn)⟩
    have HCu := Aside0.mk hcur
    have HOW := Aside0.mk hOW
    clear hcur hOW hBB hys hcc
    gi_wp2
    refine ⟨by simp, .inl ⟨_, _, rfl, run_takeDeferred hK, ?_⟩⟩
    refine ⟨_, results_tmp rfl _ _ _, ?_, rfl, ?_⟩
    · exact HOW.out.put (by omega) hK rfl rfl _
    · exact HCu.out.put hgw (by omega) hK rfl rfl _
  case stop =>
    rintro D ca pre W _ _ hx _
    exact hx.elim

/-- What a reader gets. -/
def getOk (n a : Nat) (sp : Bool) (m : Int) (xs : List UInt8) : Bool := decide (sp = false ∧ 1 ≤ m ∧ m ≤ 8 ∧ a + m.toNat ≤ n ∧ leN ((xs.drop a).take m.toNat) ≤ 9223372036854775807)
def getV (n a : Nat) (sp : Bool) (m : Int) (xs : List UInt8) : Int := if getOk n a sp m xs = true then (leN ((xs.drop a).take m.toNat) : Int) else 0
def getA (n a : Nat) (sp : Bool) (m : Int) (xs : List UInt8) : Nat := if getOk n a sp m xs = true then a + m.toNat else a
theorem get_any (g : Nat) (A : Option Addr) (n c a : Nat) (sp : Bool) (xs : List UInt8) (m : Int) (w : World) (h : Cur w g 105 A n c a sp) (hb : Bs w A n c xs) (hne : ∀ ad, A = some ad → 0 < n → ad.block ≠ g) :
    Calls Try.prog 59 #[.pointer (some ⟨g, 0, none⟩), .int .i64 m] w fun e w' => e = .returned (.int .i64 (getV n a sp m xs)) ∧ OnlyB g w w' ∧ Cur w' g 105 A n c (getA n a sp m xs) (!getOk n a sp m xs) := by
  by_cases h1 : m < 1
  · have hk : getOk n a sp m xs = false := decide_eq_false (by omega)
    refine (get_lo g A n c a sp m w h h1).mono ?_
    rintro e w' ⟨ho, rfl, hc⟩
    unfold getV getA
    rw [hk]
    exact ⟨rfl, ho, hc⟩
  by_cases h8 : 8 < m
  · have hk : getOk n a sp m xs = false := decide_eq_false (by omega)
    refine (get_hi g A n c a sp m w h h8).mono ?_
    rintro e w' ⟨ho, rfl, hc⟩
    unfold getV getA
    rw [hk]
    exact ⟨rfl, ho, hc⟩
  obtain ⟨k, rfl⟩ := Int.eq_ofNat_of_zero_le (show 0 ≤ m by omega)
  by_cases hr : sp = false ∧ a + k ≤ n
  · obtain ⟨rfl, hr⟩ := hr
    refine (get_ok 0 g A n c a xs k w h hb hne (by omega) (by omega) hr).mono ?_
    rintro e w' ⟨ho, ⟨hv, rfl, hc⟩ | ⟨hv, rfl, hc⟩⟩
    · have hk : getOk n a false k xs = true := decide_eq_true ⟨rfl, by omega, by omega, hr, hv⟩
      unfold getV getA
      rw [hk]
      exact ⟨rfl, ho, hc⟩
    · have hk : getOk n a false k xs = false := decide_eq_false (fun q => absurd q.2.2.2.2 (Nat.not_le.2 hv))
      unfold getV getA
      rw [hk]
      exact ⟨rfl, ho, hc⟩
  · have hk : getOk n a sp k xs = false := decide_eq_false (fun q => hr ⟨q.1, q.2.2.2.1⟩)
    have hno : sp = true ∨ (n : Int) - a < (k : Int) := by
      have hle := h.le
      cases sp with
      | true => exact .inl rfl
      | false => exact .inr (by have : ¬ a + k ≤ n := fun q => hr ⟨rfl, q⟩; omega)
    refine (get_no g A n c a sp k w h (by omega) (by omega) hno).mono ?_
    rintro e w' ⟨ho, rfl, hc⟩
    unfold getV getA
    rw [hk]
    exact ⟨rfl, ho, hc⟩
end Go.Proofs.Ytbjfklgmbeaaoaa
