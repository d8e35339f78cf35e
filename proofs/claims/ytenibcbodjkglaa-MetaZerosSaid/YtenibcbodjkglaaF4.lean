/- The walk of a writer's Put. -/
import Derived.Test.YtenibcbodjkglaaF2
import Derived.Test.YtenibcbodjkglaaF3
set_option linter.unusedVariables false
set_option linter.unusedSimpArgs false
namespace Go.Proofs.Ytenibcbodjkglaa
open Go.RowKit

/-! Worlds of which two blocks alone have turned -/
structure Only2 (g h : Nat) (w W : World) : Prop where
  os : W.os = w.os
  tape : W.tape = w.tape
  output : W.output = w.output
  size : w.heap.size ≤ W.heap.size
  block : ∀ i, i < w.heap.size → i ≠ g → i ≠ h → W.heap[i]? = w.heap[i]?
theorem Only2.of1 {g h : Nat} {w W : World} (k : OnlyB g w W) : Only2 g h w W := ⟨k.os, k.tape, k.output, k.size, fun i hi hne _ => k.block i hi hne⟩
theorem Only2.of2 {g h : Nat} {w W : World} (k : OnlyB h w W) : Only2 g h w W := ⟨k.os, k.tape, k.output, k.size, fun i hi _ hne => k.block i hi hne⟩
theorem Only2.trans {g h : Nat} {w W X : World} (a : Only2 g h w W) (b : Only2 g h W X) : Only2 g h w X :=
  ⟨b.os.trans a.os, b.tape.trans a.tape, b.output.trans a.output, Nat.le_trans a.size b.size, fun i hi h1 h2 => (b.block i (Nat.lt_of_lt_of_le hi a.size) h1 h2).trans (a.block i hi h1 h2)⟩
theorem Only2.refl (g h : Nat) (w : World) : Only2 g h w w := ⟨rfl, rfl, rfl, Nat.le_refl _, fun _ _ _ _ => rfl⟩
theorem Only2.of_below {g h : Nat} {w W : World} (k : Below w.heap.size w W) : Only2 g h w W := ⟨k.os, k.tape, k.output, k.size, fun i hi _ _ => k.block i hi⟩
theorem Only2.below {g h base : Nat} {w0 w W : World} (k : Only2 g h w W) (hB : Below base w0 w) (hg : base ≤ g) (hh : base ≤ h) (hs : base ≤ w0.heap.size) : Below base w0 W :=
  ⟨k.os.trans hB.os, k.tape.trans hB.tape, k.output.trans hB.output, Nat.le_trans hB.size k.size, fun i hi => (k.block i (by have := hB.size; omega) (by omega) (by omega)).trans (hB.block i hi)⟩

/-- What a writer is, by itself. -/
structure WS where
  at_ : Nat
  sp : Bool
  xs : List UInt8
/-- The last byte first. -/
def le8 (n : Int) : Nat → List UInt8
  | 0 => []
  | k + 1 => le8 n k ++ [UInt8.ofNat (n / 256 ^ k % 256).toNat]
theorem le8_length (n : Int) (k : Nat) : (le8 n k).length = k := by
  induction k with
  | zero => rfl
  | succ k ih => simp [le8, ih]
def putL (xs ys : List UInt8) (a : Nat) : List UInt8 := xs.take a ++ (ys ++ xs.drop (a + ys.length))
theorem putL_length (xs ys : List UInt8) (a : Nat) (h : a + ys.length ≤ xs.length) : (putL xs ys a).length = xs.length := by simp [putL]; omega
theorem putL_nil (xs : List UInt8) (a : Nat) : putL xs [] a = xs := by simp [putL]
theorem putL_succ (xs ys : List UInt8) (a : Nat) (y : UInt8) (h : a + ys.length < xs.length) : putL xs (ys ++ [y]) a = (putL xs ys a).set (a + ys.length) y := by
  unfold putL
  have e1 : (List.take a xs).length = a := by simp; omega
  rw [List.set_append_right _ _ (by omega), e1, show a + ys.length - a = ys.length by omega, List.set_append_right _ _ (by omega), Nat.sub_self, List.drop_eq_getElem_cons h, List.set_cons_zero]
  simp [Nat.add_assoc]
def putS (s : WS) (n width : Int) : WS := if fitsB n width = true ∧ s.sp = false ∧ s.at_ + width.toNat ≤ s.xs.length then ⟨s.at_ + width.toNat, false, putL s.xs (le8 n width.toNat) s.at_⟩ else ⟨s.at_, true, s.xs⟩
/-- A writer in memory: its own block, and its bytes'. -/
structure Wr (w : World) (base g g2 c : Nat) (s : WS) : Prop where
  cur : Cur w g 62 (some ⟨g2, 0, none⟩) s.xs.length c s.at_ s.sp
  own : Ow w base (some ⟨g2, 0, none⟩) s.xs.length c s.xs
  ne : g ≠ g2
  lo : base ≤ g
  lo2 : base ≤ g2
theorem Ow.only {g : Nat} {w W : World} {base n c : Nat} {A : Option Addr} {xs : List UInt8} (h : Ow w base A n c xs) (ho : OnlyB g w W) (hne : ∀ k, A = some ⟨k, 0, none⟩ → k ≠ g) : Ow W base A n c xs :=
  h.kept fun k e hk => ho.block k hk (hne k e)
theorem Wr.below {w W : World} {base g g2 c : Nat} {s : WS} (h : Wr w base g g2 c s) (hB : Below w.heap.size w W) : Wr W base g g2 c s := ⟨h.cur.below hB, h.own.below hB, h.ne, h.lo, h.lo2⟩

theorem shr8 (n : Int) (hn : 0 ≤ n) (j : Nat) (hj : j < 8) : Op.shift .shr .i64 n .i64 (8 * (j : Int)) = pure (.int .i64 (n / 256 ^ j)) := by
  rcases (show j = 0 ∨ j = 1 ∨ j = 2 ∨ j = 3 ∨ j = 4 ∨ j = 5 ∨ j = 6 ∨ j = 7 by omega) with rfl | rfl | rfl | rfl | rfl | rfl | rfl | rfl <;> simp [go_sem]

theorem put_val (n : Int) (j : Nat) : n / 2 ^ (8 * j) % 256 = ((UInt8.ofNat (n / 256 ^ j % 256).toNat).toNat : Int) := by
  have e : (2 : Int) ^ (8 * j) = 256 ^ j := by rw [Int.pow_mul]; rfl
  rw [e, UInt8.toNat_ofNat']
  omega
set_option maxHeartbeats 2000000 in
set_option maxRecDepth 100000 in
theorem put_any (base g g2 c : Nat) (s : WS) (n width : Int) (w : World) (hn : -9223372036854775808 ≤ n ∧ n ≤ 9223372036854775807) (h : Wr w base g g2 c s) :
    Calls Try.prog 26 #[.pointer (some ⟨g, 0, none⟩), .int .i64 n, .int .i64 width] w fun e w' => e = .returned (.tuple #[]) ∧ Wr w' base g g2 c (putS s n width) ∧ Only2 g g2 w w' ∧ w'.heap.size = w.heap.size := by
  cases hf : fitsB n width with
  | false =>
    have hp : putS s n width = ⟨s.at_, true, s.xs⟩ := by unfold putS; rw [if_neg (by simp [hf])]
    obtain ⟨c0, c1, c2⟩ := h.cur.cells
    have t0 := h.cur.thaw
    go_enter Try.func26, Try.ntmps26
    go_wp2_with (go_at_call 45; refine (fits_any n width _ hn).mono ?_; rintro e w1 ⟨rfl, rfl⟩; rw [hf])
    first | go_end0 | refine bodyPost_ret (results_none rfl _ _ _) rfl ?_
    rw [hp]
    exact ⟨rfl, ⟨by have := h.cur.spoil 0; exact this, h.own.only ((OnlyB.refl g w).set 2 _) (fun k e => by injection e with e; injection e with e; subst e; exact fun q => h.ne q.symm), h.ne, h.lo, h.lo2⟩, Only2.of1 ((OnlyB.refl g w).set 2 _), set_size ..⟩
  | true =>
    obtain ⟨k1, k2, k3, k4⟩ := of_decide_eq_true hf
    obtain ⟨m, rfl⟩ := Int.eq_ofNat_of_zero_le (show 0 ≤ width by omega)
    by_cases hroom : s.sp = false ∧ s.at_ + m ≤ s.xs.length
    · have hp : putS s n m = ⟨s.at_ + m, false, putL s.xs (le8 n m) s.at_⟩ := by unfold putS; rw [if_pos (by simpa [hf] using hroom)]; simp
      obtain ⟨hr1, hr2⟩ := hroom
      have hgo : ¬ (s.sp = true ∨ (m : Int) < 0 ∨ (s.xs.length : Int) - s.at_ < (m : Int)) := by rw [hr1]; simp; omega
      have hnn := h.ne
      have hown := h.own.bs.le
      have hcA : cutA (some ⟨g2, 0, none⟩) c s.at_ = some ⟨g2, s.at_, none⟩ := by unfold cutA; rw [if_neg (by omega)]; simp [add_plain]
      go_enter Try.func26, Try.ntmps26
      go_wp2_with (first | (go_at_call 45; refine (fits_any n m _ hn).mono ?_; rintro e w1 ⟨rfl, rfl⟩; rw [hf]) | (go_at_call 44; refine (next_any g _ _ _ c _ _ (m : Int) _ h.cur).mono ?_; rintro e w2 ⟨ho, hsz, ⟨q1, rfl, hc⟩ | ⟨q1, q2, q3, rfl, hc⟩⟩; (first | exact absurd q1 hgo | rw [hcA])))
      have hO := Aside0.mk (h.own.only ho (fun k e => by injection e with e; injection e with e; subst e; exact fun q => h.ne q.symm))
      have HH := Aside0.mk h
      have HC := Aside0.mk hc
      have HO := Aside0.mk ho
      have hp' := Aside0.mk hp
      clear h hc ho hp hgo hcA q1 q2 q3
      go_loopg [23] m (fun k v wr => ∃ j : Nat, Aside (k + j = m) ∧ v = .int .i64 (j : Int) ∧ Aside0 (Ow wr base (some ⟨g2, 0, none⟩) s.xs.length c (putL s.xs (le8 n j) s.at_)) ∧ Aside0 (OnlyB g2 w2 wr) ∧ Aside0 (wr.heap.size = w2.heap.size))
      case atStart => exact ⟨0, rfl, rfl, ⟨by rw [le8, putL_nil]; exact hO.out⟩, ⟨OnlyB.refl _ _⟩, ⟨rfl⟩⟩
      case round =>
        obtain ⟨j, hk, rfl, hown2, hW, hS⟩ := hrel
        have hjb : j ≤ m := by have := hk.out; omega
        by_cases hlt : j < m
        · obtain ⟨adx, hadx, cx⟩ := hown2.out.bs.atN (s.at_ + j) (by omega)
          injection hadx with hadx
          subst hadx
          rw [add_plain] at cx
          obtain ⟨_, hg, _, _, hfr⟩ := hown2.out.head (by omega)
          injection hg with hg
          injection hg with hg
          subst hg
          have hfj := hfr (s.at_ + j)
          clear hfr
          have hjn : (j : Int) < (m : Int) := by omega
          have hj8 : (j : Int) < 8 := by omega
          have hsh := shr8 n k3 j (by omega)
          go_wp2
          go_roundg (m - (j + 1))
          case measure => have := hk.out; omega
          case rel =>
            refine ⟨j + 1, by have := hk.out; exact (show m - (j + 1) + (j + 1) = m by omega), by go_num, ⟨?_⟩, ⟨hW.out.set _ _⟩, ⟨(set_size ..).trans hS.out⟩⟩
            rw [le8, putL_succ _ _ _ _ (by rw [le8_length]; omega), le8_length]
            rw [put_val]
            exact hown2.out.store (s.at_ + j) _
        · obtain rfl : j = m := by omega
          go_wp2
          first | go_end0 | refine bodyPost_ret (results_none rfl _ _ _) rfl ?_
          have hxl : (putL s.xs (le8 n j) s.at_).length = s.xs.length := putL_length _ _ _ (by rw [le8_length]; omega)
          rw [hp'.out]
          refine ⟨rfl, ⟨?_, ?_, HH.out.ne, HH.out.lo, HH.out.lo2⟩, (Only2.of1 HO.out).trans (Only2.of2 hW.out), hS.out.trans hsz⟩
          · show Cur wr g _ _ (putL s.xs (le8 n j) s.at_).length c (s.at_ + j) false
            rw [hxl]
            exact HC.out.only hW.out hnn
          · show Ow wr base _ (putL s.xs (le8 n j) s.at_).length c (putL s.xs (le8 n j) s.at_)
            rw [hxl]
            exact hown2.out
    · have hp : putS s n m = ⟨s.at_, true, s.xs⟩ := by unfold putS; rw [if_neg (fun k => hroom ⟨k.2.1, by simpa using k.2.2⟩)]
      have hle := h.cur.le
      have hgo : s.sp = true ∨ (m : Int) < 0 ∨ (s.xs.length : Int) - s.at_ < (m : Int) := by
        cases hsp : s.sp with
        | true => exact .inl rfl
        | false => exact .inr (.inr (by have : ¬ s.at_ + m ≤ s.xs.length := fun k => hroom ⟨hsp, k⟩; omega))
      have hgo' := Aside0.mk hgo
      clear hgo
      go_enter Try.func26, Try.ntmps26
      go_wp2_with (first | (go_at_call 45; refine (fits_any n m _ hn).mono ?_; rintro e w1 ⟨rfl, rfl⟩; rw [hf]) | (go_at_call 44; refine (next_any g _ _ _ c _ _ (m : Int) _ h.cur).mono ?_; rintro e w2 ⟨ho, hsz, ⟨q1, rfl, hc⟩ | ⟨q1, q2, q3, rfl, hc⟩⟩; (first | skip | skip)))
      · have HC := Aside0.mk (And.intro hc (And.intro ho q1))
        clear hc ho q1
        go_loopg [23] 0 (fun k v wr => v = .int .i64 0 ∧ wr = w2)
        case atStart => exact ⟨rfl, rfl⟩
        case round =>
          obtain ⟨rfl, rfl⟩ := hrel
          go_wp2
          first | go_end0 | refine bodyPost_ret (results_none rfl _ _ _) rfl ?_
          rw [hp]
          exact ⟨rfl, ⟨HC.out.1, h.own.only HC.out.2.1 (fun k e => by injection e with e; injection e with e; subst e; exact fun q => h.ne q.symm), h.ne, h.lo, h.lo2⟩, Only2.of1 HC.out.2.1, hsz⟩
      · exact absurd hgo'.out (by rw [q1]; simp; omega)
end Go.Proofs.Ytenibcbodjkglaa
