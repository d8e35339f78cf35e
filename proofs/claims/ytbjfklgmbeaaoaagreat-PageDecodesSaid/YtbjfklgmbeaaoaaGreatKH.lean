/- The walk of node.Same, where both hold the same. -/
import Derived.Test.YtbjfklgmbeaaoaaGreatKG
set_option linter.unusedVariables false
set_option linter.unusedSimpArgs false
namespace Go.Proofs.YtbjfklgmbeaaoaaGreat
open Go.RowKit

set_option maxHeartbeats 3000000 in
set_option maxRecDepth 100000 in
theorem kidsame_any (A : Option Addr) (n c : Nat) (B : Option Addr) (m d : Nat) (xs : List UInt8) (r : Int) (w : World) (h1 : Bs w A n c xs) (h2 : Bs w B m d xs) :
    Calls Tryz.prog 46 #[.agg #[.slice A n c, .int .i64 r], .agg #[.slice B m d, .int .i64 r]] w fun e w' => e = .returned (.bool true) ∧ Below w.heap.size w w' := by
  have hB := below_two w (.cells #[.slice A n c, .int .i64 r] 74) (.cells #[.slice B m d, .int .i64 r] 74)
  have HX := Aside0.mk (And.intro (h1.below hB) (And.intro (h2.below hB) hB))
  have q1 : (xs == xs) = true := beq_self_eq_true xs
  have q2 : (r == r) = true := beq_self_eq_true r
  have HQ := Aside0.mk q1
  clear h1 h2 hB q1
  go_enter Tryz.func46, Tryz.ntmps46
  go_wp2_with (go_at_call 11; refine (equal8_any _ _ _ _ _ _ _ _ _ HX.out.1 HX.out.2.1).mono ?_; rintro e w6 ⟨rfl, rfl⟩; rw [HQ.out])
  go_ret
  exact ⟨rfl, HX.out.2.2⟩
set_option maxHeartbeats 3000000 in
set_option maxRecDepth 100000 in
theorem eqItems_any (A : Option Addr) (n c : Nat) (B : Option Addr) (m d : Nat) (hs ks : List IH) (l : List IV) (w : World) (h1 : Rc w 4 A n c (ihv hs)) (l1 : hs.length = n) (i1 : Its w hs l) (h2 : Rc w 4 B m d (ihv ks)) (l2 : ks.length = m) (i2 : Its w ks l) :
    Calls Tryz.prog 47 #[.slice A n c, .slice B m d, .func (.func 48) #[] #[]] w fun e w' => e = .returned (.bool true) ∧ Below w.heap.size w w' := by
  obtain rfl : m = n := by rw [← l1, ← l2, i1.len, i2.len]
  have hlim := h1.lim
  have q1 : (((m : Nat) : Int) != ((m : Nat) : Int)) = false := by simp
  have HR := Aside0.mk (And.intro h1 (And.intro l1 i1))
  have HS := Aside0.mk (And.intro h2 (And.intro l2 i2))
  clear h1 l1 i1 h2 l2 i2
  go_enter Tryz.func47, Tryz.ntmps47
  go_wp2_with fail
  go_loopg [17] m (fun gk v17 wr => ∃ (j : Nat), Aside (gk + j = m) ∧ v17 = .int .i64 (j : Int) ∧ Aside0 (Below w.heap.size w wr))
  case atStart => exact ⟨0, rfl, rfl, ⟨Below.refl _ _⟩⟩
  case round =>
    obtain ⟨j, hk, rfl, hI⟩ := hrel
    have hjm : j ≤ m := by have := hk.out; omega
    rcases Nat.lt_or_ge j m with hlt | hge
    · have d1 : decide ((j : Int) < (m : Int)) = true := decide_eq_true (by omega)
      have hjn : (j : Int) < (m : Int) := by omega
      obtain ⟨ad, p, rfl, hp, c0, c1, c2, c3⟩ := (HR.out.1.below hI.out).item HR.out.2.1 j hlt
      obtain ⟨q, hq, bk, bv, es, er⟩ := (HR.out.2.2.below hI.out).each j p hp
      obtain ⟨⟨pk, pkn, pkc⟩, ⟨pv, pvn, pvc⟩, ps, pr⟩ := p
      obtain ⟨ad2, p2, rfl, hp2, e0, e1, e2, e3⟩ := (HS.out.1.below hI.out).item HS.out.2.1 j hlt
      obtain ⟨q2, hq2, bk2, bv2, es2, er2⟩ := (HS.out.2.2.below hI.out).each j p2 hp2
      obtain ⟨⟨sk, skn, skc⟩, ⟨sv, svn, svc⟩, ss, sr⟩ := p2
      rw [hq] at hq2
      injection hq2 with hq2
      subst hq2
      obtain ⟨qk, qv, qs, qr⟩ := q
      unfold shv at c0 c1 e0 e1
      unfold Bsh at bk bv bk2 bv2
      simp only at c0 c1 c2 c3 bk bv es er e0 e1 e2 e3 bk2 bv2 es2 er2
      subst es er es2 er2
      have HQ := Aside0.mk (And.intro bk (And.intro bv (And.intro bk2 bv2)))
      clear hq bk bv hp bk2 bv2 hp2
      go_upto_region 6 with fail
      have hB5 := (Below.refl _ wr).alloc (Nat.le_refl _) (.cells #[.slice pk pkn pkc, .slice pv pvn pvc, .int .i64 ss, .int .i64 sr] 44)
      have H5 := Aside0.mk (And.intro hB5 (heap_alloc_new wr (.cells #[.slice pk pkn pkc, .slice pv pvn pvc, .int .i64 ss, .int .i64 sr] 44)))
      have f0 := hB5.cell (World.block_lt_of_cell? _ _ e0) |>.trans e0
      have f1 := hB5.cell (World.block_lt_of_cell? _ _ e1) |>.trans e1
      have f2 := hB5.cell (World.block_lt_of_cell? _ _ e2) |>.trans e2
      have f3 := hB5.cell (World.block_lt_of_cell? _ _ e3) |>.trans e3
      obtain ⟨w5, hw5⟩ : ∃ X, wr.alloc (.cells #[.slice pk pkn pkc, .slice pv pvn pvc, .int .i64 ss, .int .i64 sr] 44) = X := ⟨_, rfl⟩
      obtain ⟨M, hM⟩ : ∃ X, wr.heap.size = X := ⟨_, rfl⟩
      rw [hw5] at H5 f0 f1 f2 f3
      have HM := Aside0.mk (show Below wr.heap.size wr w5 ∧ w5.heap[M]? = some (.cells #[.slice pk pkn pkc, .slice pv pvn pvc, .int .i64 ss, .int .i64 sr] 44) from ⟨H5.out.1, by rw [← hM]; exact H5.out.2⟩)
      rw [hw5, hM]
      clear hw5 hM hB5 c0 c1 c2 c3 e0 e1 e2 e3 H5
      go_upto_region 7 with fail
      have hB6 := (Below.refl _ w5).alloc (Nat.le_refl _) (.cells #[.slice sk skn skc, .slice sv svn svc, .int .i64 ss, .int .i64 sr] 44)
      have H6 := Aside0.mk (And.intro (below_then HM.out.1 HM.out.1.size hB6) (And.intro ((hB6.block _ (Array.getElem?_eq_some_iff.1 HM.out.2).1).trans HM.out.2) (heap_alloc_new w5 (.cells #[.slice sk skn skc, .slice sv svn svc, .int .i64 ss, .int .i64 sr] 44))))
      obtain ⟨w6, hw6⟩ : ∃ X, w5.alloc (.cells #[.slice sk skn skc, .slice sv svn svc, .int .i64 ss, .int .i64 sr] 44) = X := ⟨_, rfl⟩
      obtain ⟨M2, hM2⟩ : ∃ X, w5.heap.size = X := ⟨_, rfl⟩
      rw [hw6, hM2] at H6
      rw [hw6, hM2]
      clear hw6 hM2 hB6 f0 f1 f2 f3
      obtain ⟨y0, y1, y2, y3⟩ := item_cells2 H6.out.2.1
      obtain ⟨z0, z1, z2, z3⟩ := item_cells2 H6.out.2.2
      go_wp2_with (go_at_call 48; refine (isame_any pk pkn pkc qk pv pvn pvc qv ss sr sk skn skc qk sv svn svc qv ss sr w6 ⟨HQ.out.1.below H6.out.1, HQ.out.2.1.below H6.out.1, HQ.out.2.2.1.below H6.out.1, HQ.out.2.2.2.below H6.out.1⟩).mono ?_; rintro e w7 ⟨rfl, hB⟩; rw [show sameB qk qv qk qv ss sr ss sr = true from decide_eq_true ⟨rfl, rfl, rfl, rfl⟩]; (have H7 := Aside0.mk (below_then hI.out hI.out.size (below_then H6.out.1 H6.out.1.size hB))); clear hB)
      go_roundg (m - (j + 1))
      case measure => have := hk.out; omega
      case rel => exact ⟨j + 1, (by show m - (j + 1) + (j + 1) = m; omega), by go_num, ⟨H7.out⟩⟩
    · obtain rfl : m = j := by omega
      have d1 : decide ((m : Int) < (m : Int)) = false := by simp
      go_wp2_with fail
      go_ret
      exact ⟨rfl, hI.out⟩
set_option maxHeartbeats 3000000 in
set_option maxRecDepth 100000 in
theorem eqKids_any (A : Option Addr) (n c : Nat) (B : Option Addr) (m d : Nat) (hs ks : List KH) (l : List KV) (w : World) (h1 : Rc w 2 A n c (khv hs)) (l1 : hs.length = n) (i1 : Kds w hs l) (h2 : Rc w 2 B m d (khv ks)) (l2 : ks.length = m) (i2 : Kds w ks l) :
    Calls Tryz.prog 49 #[.slice A n c, .slice B m d, .func (.func 46) #[] #[]] w fun e w' => e = .returned (.bool true) ∧ Below w.heap.size w w' := by
  obtain rfl : m = n := by rw [← l1, ← l2, i1.len, i2.len]
  have hlim := h1.lim
  have q1 : (((m : Nat) : Int) != ((m : Nat) : Int)) = false := by simp
  have HR := Aside0.mk (And.intro h1 (And.intro l1 i1))
  have HS := Aside0.mk (And.intro h2 (And.intro l2 i2))
  clear h1 l1 i1 h2 l2 i2
  go_enter Tryz.func49, Tryz.ntmps49
  go_wp2_with fail
  go_loopg [17] m (fun gk v17 wr => ∃ (j : Nat), Aside (gk + j = m) ∧ v17 = .int .i64 (j : Int) ∧ Aside0 (Below w.heap.size w wr))
  case atStart => exact ⟨0, rfl, rfl, ⟨Below.refl _ _⟩⟩
  case round =>
    obtain ⟨j, hk, rfl, hI⟩ := hrel
    have hjm : j ≤ m := by have := hk.out; omega
    rcases Nat.lt_or_ge j m with hlt | hge
    · have d1 : decide ((j : Int) < (m : Int)) = true := decide_eq_true (by omega)
      have hjn : (j : Int) < (m : Int) := by omega
      obtain ⟨ad, p, rfl, hp, c0, c1⟩ := (HR.out.1.below hI.out).kid HR.out.2.1 j hlt
      obtain ⟨q, hq, bk, er⟩ := (HR.out.2.2.below hI.out).each j p hp
      obtain ⟨⟨pk, pkn, pkc⟩, pr⟩ := p
      obtain ⟨ad2, p2, rfl, hp2, e0, e1⟩ := (HS.out.1.below hI.out).kid HS.out.2.1 j hlt
      obtain ⟨q2, hq2, bk2, er2⟩ := (HS.out.2.2.below hI.out).each j p2 hp2
      obtain ⟨⟨sk, skn, skc⟩, sr⟩ := p2
      rw [hq] at hq2
      injection hq2 with hq2
      subst hq2
      obtain ⟨qk, qr⟩ := q
      unfold shv at c0 e0
      unfold Bsh at bk bk2
      simp only at c0 c1 bk er e0 e1 bk2 er2
      subst er er2
      have HQ := Aside0.mk (And.intro bk bk2)
      clear hq bk hp bk2 hp2
      go_upto_region 6 with fail
      have hB5 := (Below.refl _ wr).alloc (Nat.le_refl _) (.cells #[.slice pk pkn pkc, .int .i64 sr] 74)
      have H5 := Aside0.mk (And.intro hB5 (heap_alloc_new wr (.cells #[.slice pk pkn pkc, .int .i64 sr] 74)))
      have f0 := hB5.cell (World.block_lt_of_cell? _ _ e0) |>.trans e0
      have f1 := hB5.cell (World.block_lt_of_cell? _ _ e1) |>.trans e1
      obtain ⟨w5, hw5⟩ : ∃ X, wr.alloc (.cells #[.slice pk pkn pkc, .int .i64 sr] 74) = X := ⟨_, rfl⟩
      obtain ⟨M, hM⟩ : ∃ X, wr.heap.size = X := ⟨_, rfl⟩
      rw [hw5] at H5 f0 f1
      have HM := Aside0.mk (show Below wr.heap.size wr w5 ∧ w5.heap[M]? = some (.cells #[.slice pk pkn pkc, .int .i64 sr] 74) from ⟨H5.out.1, by rw [← hM]; exact H5.out.2⟩)
      rw [hw5, hM]
      clear hw5 hM hB5 c0 c1 e0 e1 H5
      go_upto_region 7 with fail
      have hB6 := (Below.refl _ w5).alloc (Nat.le_refl _) (.cells #[.slice sk skn skc, .int .i64 sr] 74)
      have H6 := Aside0.mk (And.intro (below_then HM.out.1 HM.out.1.size hB6) (And.intro ((hB6.block _ (Array.getElem?_eq_some_iff.1 HM.out.2).1).trans HM.out.2) (heap_alloc_new w5 (.cells #[.slice sk skn skc, .int .i64 sr] 74))))
      obtain ⟨w6, hw6⟩ : ∃ X, w5.alloc (.cells #[.slice sk skn skc, .int .i64 sr] 74) = X := ⟨_, rfl⟩
      obtain ⟨M2, hM2⟩ : ∃ X, w5.heap.size = X := ⟨_, rfl⟩
      rw [hw6, hM2] at H6
      rw [hw6, hM2]
      clear hw6 hM2 hB6 f0 f1
      have y0 : w6.cell? ⟨M, 0, none⟩ = some (.slice pk pkn pkc) := by rw [cell_of_row _ _ _ _ _ _ H6.out.2.1]; rfl
      have y1 : w6.cell? ⟨M, 1, none⟩ = some (.int .i64 sr) := by rw [cell_of_row _ _ _ _ _ _ H6.out.2.1]; rfl
      have z0 : w6.cell? ⟨M2, 0, none⟩ = some (.slice sk skn skc) := by rw [cell_of_row _ _ _ _ _ _ H6.out.2.2]; rfl
      have z1 : w6.cell? ⟨M2, 1, none⟩ = some (.int .i64 sr) := by rw [cell_of_row _ _ _ _ _ _ H6.out.2.2]; rfl
      go_wp2_with (go_at_call 46; refine (kidsame_any pk pkn pkc sk skn skc qk sr w6 (HQ.out.1.below H6.out.1) (HQ.out.2.below H6.out.1)).mono ?_; rintro e w7 ⟨rfl, hB⟩; (have H7 := Aside0.mk (below_then hI.out hI.out.size (below_then H6.out.1 H6.out.1.size hB))); clear hB)
      go_roundg (m - (j + 1))
      case measure => have := hk.out; omega
      case rel => exact ⟨j + 1, (by show m - (j + 1) + (j + 1) = m; omega), by go_num, ⟨H7.out⟩⟩
    · obtain rfl : m = j := by omega
      have d1 : decide ((m : Int) < (m : Int)) = false := by simp
      go_wp2_with fail
      go_ret
      exact ⟨rfl, hI.out⟩
set_option maxHeartbeats 3000000 in
set_option maxRecDepth 100000 in
theorem nsame_any (h k : NH) (is js : List IH) (ks ls : List KH) (v : NV) (w : World) (h1 : Nd w h is ks v) (h2 : Nd w k js ls v) :
    Calls Tryz.prog 15 #[.agg (nhv h), .agg (nhv k)] w fun e w' => e = .returned (.bool true) ∧ Below w.heap.size w w' := by
  obtain ⟨lf, ⟨IA, In, Ic⟩, ⟨KA, Kn, Kc⟩⟩ := h
  obtain ⟨lg, ⟨JA, Jn, Jc⟩, ⟨LA, Ln, Lc⟩⟩ := k
  obtain rfl : lg = lf := h2.leaf.trans h1.leaf.symm
  have g1 : (lg == lg) = true := beq_self_eq_true lg
  have hB := below_two w (.cells #[.bool lg, .slice IA In Ic, .slice KA Kn Kc] 28) (.cells #[.bool lg, .slice JA Jn Jc, .slice LA Ln Lc] 28)
  have hs2 : (w.alloc (.cells #[.bool lg, .slice IA In Ic, .slice KA Kn Kc] 28)).heap.size = w.heap.size + 1 := by simp
  have hra := (((Below.refl _ (w.alloc (.cells #[.bool lg, .slice IA In Ic, .slice KA Kn Kc] 28))).alloc (Nat.le_refl _) (.cells #[.bool lg, .slice JA Jn Jc, .slice LA Ln Lc] 28)).block w.heap.size (by omega)).trans (heap_alloc_new w (.cells #[.bool lg, .slice IA In Ic, .slice KA Kn Kc] 28))
  have hrb := heap_two w (.cells #[.bool lg, .slice IA In Ic, .slice KA Kn Kc] 28) (.cells #[.bool lg, .slice JA Jn Jc, .slice LA Ln Lc] 28)
  have H0 := Aside0.mk (And.intro (h1.below hB) (And.intro (h2.below hB) (And.intro hB (And.intro hra hrb))))
  clear h1 h2 hB hs2 hra hrb
  show Calls Tryz.prog 15 #[.agg #[.bool lg, .slice IA In Ic, .slice KA Kn Kc], .agg #[.bool lg, .slice JA Jn Jc, .slice LA Ln Lc]] w _
  go_enter Tryz.func15, Tryz.ntmps15
  go_upto_region 1 with fail
  obtain ⟨w0, hw0⟩ : ∃ X, (w.alloc (.cells #[.bool lg, .slice IA In Ic, .slice KA Kn Kc] 28)).alloc (.cells #[.bool lg, .slice JA Jn Jc, .slice LA Ln Lc] 28) = X := ⟨_, rfl⟩
  obtain ⟨N, hN⟩ : ∃ X, w.heap.size = X := ⟨_, rfl⟩
  obtain ⟨N1, hN1⟩ : ∃ X, w.heap.size + 1 = X := ⟨_, rfl⟩
  have H1 := Aside0.mk (show w0.heap[N]? = some (.cells #[.bool lg, .slice IA In Ic, .slice KA Kn Kc] 28) ∧ w0.heap[N1]? = some (.cells #[.bool lg, .slice JA Jn Jc, .slice LA Ln Lc] 28) from ⟨by rw [← hw0, ← hN]; exact H0.out.2.2.2.1, by rw [← hw0, ← hN1]; exact H0.out.2.2.2.2⟩)
  rw [hw0] at H0
  have HNN := Aside0.mk (And.intro H0.out.1 (And.intro H0.out.2.1 H0.out.2.2.1))
  rw [hw0, hN1, hN]
  clear hw0 hN hN1 H0
  obtain ⟨y0, y1, y2⟩ := nd_cells H1.out.1
  obtain ⟨z0, z1, z2⟩ := nd_cells H1.out.2
  go_wp2_with (first
    | (go_at_call 47; refine (eqItems_any IA In Ic JA Jn Jc is js v.items w0 HNN.out.1.ri HNN.out.1.li HNN.out.1.its HNN.out.2.1.ri HNN.out.2.1.li HNN.out.2.1.its).mono ?_; rintro e w1 ⟨rfl, hB⟩; (have H2 := Aside0.mk hB); clear y0 y1 y2 z0 z1 z2; (obtain ⟨y0, y1, y2⟩ := nd_cells ((hB.block _ (Array.getElem?_eq_some_iff.1 H1.out.1).1).trans H1.out.1)); (obtain ⟨z0, z1, z2⟩ := nd_cells ((hB.block _ (Array.getElem?_eq_some_iff.1 H1.out.2).1).trans H1.out.2)); clear hB)
    | (go_at_call 49; refine (eqKids_any KA Kn Kc LA Ln Lc ks ls v.kids w1 (HNN.out.1.below H2.out).rk (HNN.out.1.below H2.out).lk (HNN.out.1.below H2.out).kds (HNN.out.2.1.below H2.out).rk (HNN.out.2.1.below H2.out).lk (HNN.out.2.1.below H2.out).kds).mono ?_; rintro e w2 ⟨rfl, hB⟩; (have H3 := Aside0.mk (below_then H2.out H2.out.size hB)); clear hB))
  go_ret
  exact ⟨rfl, below_then HNN.out.2.2 HNN.out.2.2.size H3.out⟩
end Go.Proofs.YtbjfklgmbeaaoaaGreat
