/- The walk of field's own small example. -/
import Derived.Test.YtagfljmjdkoehaaDoorZ4
set_option linter.unusedVariables false
set_option linter.unusedSimpArgs false
namespace Go.Proofs.YtagfljmjdkoehaaDoor
open Go.RowKit

def ex3 : List UInt8 := [1, 2, 7, 0]
theorem put3 : putS (putS ⟨0, false, List.replicate 4 0⟩ 513 2) 7 1 = ⟨3, false, ex3⟩ := by rfl
/-- What the small example keeps. -/
structure I03 (w : World) (g g2 : Nat) (gr : Nat) (A1 : Option Addr) (c1 : Nat) (a : Nat) (sp : Bool) (A2 : Option Addr) (c2 : Nat) (W : World) : Prop where
  wr : Wr W w.heap.size g g2 4 ⟨3, false, ex3⟩
  cur : Cur W gr 49 A1 4 c1 a sp
  row : Bs W A1 4 c1 ex3
  out : Bs W A2 4 c2 ex3
  bel : Below w.heap.size w W
theorem I03.step {w W W1 : World} {g g2 gr c1 a c2 : Nat} {A1 A2 : Option Addr} {sp : Bool} (h : I03 w g g2 gr A1 c1 a sp A2 c2 W) (hB : Below W.heap.size W W1) : I03 w g g2 gr A1 c1 a sp A2 c2 W1 :=
  ⟨h.wr.below hB, h.cur.below hB, h.row.below hB, h.out.below hB, below_then h.bel h.bel.size hB⟩
theorem Wr.only {w W : World} {base g g2 c k : Nat} {s : WS} (h : Wr w base g g2 c s) (ho : OnlyB k w W) (h1 : g ≠ k) (h2 : g2 ≠ k) : Wr W base g g2 c s :=
  ⟨h.cur.only ho h1, h.own.only ho (fun j e => by injection e with e; injection e with e; subst e; exact h2), h.ne, h.lo, h.lo2⟩
theorem I03.go {w W W1 : World} {g g2 gr c1 a c2 a' : Nat} {A1 A2 : Option Addr} {sp sp' : Bool} (h : I03 w g g2 gr A1 c1 a sp A2 c2 W) (ho : OnlyB gr W W1) (h0 : w.heap.size ≤ gr) (h1 : g ≠ gr) (h2 : g2 ≠ gr)
    (h3 : ∀ ad, A1 = some ad → 0 < 4 → ad.block ≠ gr) (h4 : ∀ ad, A2 = some ad → 0 < 4 → ad.block ≠ gr) (hc : Cur W1 gr 49 A1 4 c1 a' sp') : I03 w g g2 gr A1 c1 a' sp' A2 c2 W1 :=
  ⟨h.wr.only ho h1 h2, hc, h.row.only ho h3, h.out.only ho h4, ho.below h.bel h0 (Nat.le_refl _)⟩

set_option maxHeartbeats 4000000 in
set_option maxRecDepth 100000 in
theorem alive03_any (w : World) : Calls Tryd.prog 6 #[] w fun e w' => e = .returned (.bool true) ∧ Below w.heap.size w w' := by
  go_enter Tryd.func6, Tryd.ntmps6
  go_wp2_with (go_at_call 7; refine (newWriter_any 4 w).mono ?_; rintro e w1 ⟨g, g2, rfl, hg, hg2, hne, hgl, hc, hO, hB⟩)
  have hW0 : Wr w1 w.heap.size g g2 4 ⟨0, false, List.replicate 4 0⟩ := ⟨hc, hO, hne, hg, hg2⟩
  have hgl2 : g2 < w1.heap.size := by obtain ⟨k, e, _, h3, _⟩ := hO.head (by decide); injection e with e; injection e with e; subst e; exact h3
  clear hc hO
  go_wp2_with (go_at_call 8; refine (put_any w.heap.size g g2 4 _ 513 2 w1 (by omega) hW0).mono ?_; rintro e w2 ⟨rfl, hW1, hO2, hs2⟩; clear hW0)
  go_wp2_with (go_at_call 8; refine (put_any w.heap.size g g2 4 _ 7 1 w2 (by omega) hW1).mono ?_; rintro e w3 ⟨rfl, hW2, hO3, hs3⟩; clear hW1; rw [put3] at hW2)
  have hB3 : Below w.heap.size w w3 := hO3.below (hO2.below hB hg hg2 (Nat.le_refl _)) hg hg2 (Nat.le_refl _)
  go_wp2_with (go_at_call 9; refine (done_any g _ 4 4 3 false ex3 w3 hW2.cur hW2.own.bs).mono ?_; rintro e w4 ⟨A2, c2, rfl, hO4, hB4⟩)
  go_wp2_with (go_at_call 11; refine (newReader_any _ _ _ ex3 w4 hO4.bs).mono ?_; rintro e w5 ⟨gr, A1, c1, rfl, hgr, hne5, hc5, hO5, hB5⟩)
  have hI : I03 w g g2 gr A1 c1 0 false A2 c2 w5 := ⟨(hW2.below hB4).below hB5, hc5, hO5.bs, hO4.bs.below hB5, below_then (below_then hB3 hB3.size hB4) (by have := hB3.size; have := hB4.size; omega) hB5⟩
  have n0 : w.heap.size ≤ gr := by have := hB3.size; have := hB4.size; omega
  have n1 : g ≠ gr := by have := hB4.size; omega
  have n2 : g2 ≠ gr := by have := hB4.size; omega
  have n4 : ∀ ad, A2 = some ad → 0 < 4 → ad.block ≠ gr := fun ad e h => by have := hO4.bs.lt ad e (by decide); omega
  have n3 : ∀ ad, A1 = some ad → 0 < 4 → ad.block ≠ gr := hne5
  have n9 : w.heap.size ≤ w3.heap.size := hB3.size
  clear hW2 hO2 hO3 hO4 hO5 hB3 hB4 hB5 hc5 hne5 hs2 hs3 hB
  have v1 : getV 4 0 false 2 ex3 = 513 := by decide +kernel
  have k1 : getOk 4 0 false 2 ex3 = true := by decide +kernel
  have v2 : getV 4 2 false 1 ex3 = 7 := by decide +kernel
  have k2 : getOk 4 2 false 1 ex3 = true := by decide +kernel
  have x1 : getA 4 0 false 2 ex3 = 2 := by decide +kernel
  have x2 : getA 4 2 false 1 ex3 = 3 := by decide +kernel
  go_wp2_with (go_at_call 12; refine (get_any gr A1 4 c1 0 false ex3 2 w5 hI.cur hI.row n3).mono ?_; rintro e w6 ⟨rfl, ho, hcu⟩; rw [v1]; rw [x1, k1] at hcu; have hJ := hI.go ho n0 n1 n2 n3 n4 hcu; clear hI ho hcu)
  go_wp2_with (go_at_call 12; refine (get_any gr A1 4 c1 2 false ex3 1 w6 hJ.cur hJ.row n3).mono ?_; rintro e w7 ⟨rfl, ho, hcu⟩; rw [v2]; rw [x2, k2] at hcu; have hI := hJ.go ho n0 n1 n2 n3 n4 hcu; clear hJ ho hcu)
  go_wp2_with (go_at_call 21; refine (skip_any gr _ A1 4 c1 3 false 9 w7 hI.cur).mono ?_; rintro e w8 ⟨rfl, ho, hs8, ⟨q1, hcu⟩ | ⟨q1, q2, q3, hcu⟩⟩ <;> (first | (have q4 := (show ¬ (3 + (9 : Int).toNat ≤ 4) by decide) q3; exact q4.elim) | skip); have hJ := hI.go ho n0 n1 n2 n3 n4 hcu; clear hI ho hcu hs8)
  have hL := Bs.lit w8 w8.heap.size rfl #[.int .u8 1, .int .u8 2, .int .u8 7, .int .u8 0] 5 (0, 0) 4 4 ex3 rfl rfl (by omega) (by omega) (by omega)
  have hI := hJ.step ((Below.refl _ _).alloc (Nat.le_refl _) (.cells #[.int .u8 1, .int .u8 2, .int .u8 7, .int .u8 0] 5))
  have eB := hI.bel
  have e0 : (ex3 == ex3) = true := by decide +kernel
  have e1 : fitsB 255 1 = true := by decide
  have e2 : fitsB 256 1 = false := by decide
  go_wp2_with (first
    | (go_at_call 22; refine (equal8_any A2 4 c2 ex3 _ 4 4 ex3 _ hI.out hL).mono ?_; rintro e wa ⟨rfl, rfl⟩; rw [e0])
    | (go_at_call 23; refine (err_any gr A1 4 c1 3 true _ hI.cur).mono ?_; rintro e wa ⟨rfl, rfl⟩)
    | (go_at_call 24; first
        | ((with_reducible refine (at_any gr _ A1 4 c1 3 true _ hI.cur).mono ?_); rintro e wa ⟨rfl, rfl⟩)
        | ((with_reducible refine (at_any g _ _ _ _ _ _ _ hI.wr.cur).mono ?_); rintro e wa ⟨rfl, rfl⟩)))
  clear hJ hL
  have HI := Aside0.mk hI
  clear hI
  go_wp2_with (go_at_call 25; refine (left_any gr A1 4 c1 3 true _ HI.out.cur).mono ?_; rintro e wa ⟨rfl, k, rfl⟩)
  have hI := HI.out.step (below_drawn (Below.refl _ _) k)
  clear HI
  go_wp2_with (go_at_call 24; refine (at_any g _ _ _ _ _ _ _ hI.wr.cur).mono ?_; rintro e wa ⟨rfl, rfl⟩)
  go_wp2_with (go_at_call 26; first
      | ((with_reducible refine (fits_any 255 1 _ (by omega)).mono ?_); rintro e wa ⟨rfl, rfl⟩; rw [e1])
      | ((with_reducible refine (fits_any 256 1 _ (by omega)).mono ?_); rintro e wa ⟨rfl, rfl⟩; rw [e2]))
  go_ret
  exact ⟨rfl, hI.bel⟩
end Go.Proofs.YtagfljmjdkoehaaDoor
