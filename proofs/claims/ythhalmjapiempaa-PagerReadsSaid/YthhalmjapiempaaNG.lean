/- The walk of the law PagerTwo. -/
import Derived.Test.YthhalmjapiempaaNF
import Derived.Test.YthhalmjapiempaaNE
set_option linter.unusedVariables false
set_option linter.unusedSimpArgs false
namespace Go.Proofs.Ythhalmjapiempaa
open Go.RowKit

/-- Two boxes, two rows of writes and a cursor, that stand. -/
structure TS (W w0 : World) (A : Option Addr) (n c : Nat) (hs : List (Int × Option Addr × Nat × Nat)) (l : List (Int × List UInt8)) (B : Option Addr) (q k : Nat) (js : List (Int × Option Addr × Nat × Nat)) (more : List (Int × List UInt8)) (A' : Option Addr) (cu : List UInt8) (c' : Nat) (N0 M0 : Nat) (bx bz : Obj) (X : World) : Prop where
  bel : Below W.heap.size W X
  rl : Rl X A n c hs
  hs : Hs w0 [] X hs l
  rv : Rl X B q k js
  js : Hs w0 [] X js more
  cu : Bs X A' cu.length c' cu
  r0 : X.heap[N0]? = some bx
  r1 : X.heap[M0]? = some bz
theorem TS.step {W w0 : World} {A : Option Addr} {n c : Nat} {hs : List (Int × Option Addr × Nat × Nat)} {l : List (Int × List UInt8)} {B : Option Addr} {q k : Nat} {js : List (Int × Option Addr × Nat × Nat)} {more : List (Int × List UInt8)} {A' : Option Addr} {cu : List UInt8} {c' : Nat} {N0 M0 : Nat} {bx bz : Obj} {X Y : World} (h : TS W w0 A n c hs l B q k js more A' cu c' N0 M0 bx bz X) (hB : Below X.heap.size X Y) : TS W w0 A n c hs l B q k js more A' cu c' N0 M0 bx bz Y :=
  ⟨below_then h.bel h.bel.size hB, h.rl.below hB, h.hs.below hB, h.rv.below hB, h.js.below hB, h.cu.below hB, (hB.block _ (Array.getElem?_eq_some_iff.1 h.r0).1).trans h.r0, (hB.block _ (Array.getElem?_eq_some_iff.1 h.r1).1).trans h.r1⟩
theorem TS.since {W w0 w2 : World} {A : Option Addr} {n c : Nat} {hs : List (Int × Option Addr × Nat × Nat)} {l : List (Int × List UInt8)} {B : Option Addr} {q k : Nat} {js : List (Int × Option Addr × Nat × Nat)} {more : List (Int × List UInt8)} {A' : Option Addr} {cu : List UInt8} {c' : Nat} {N0 M0 : Nat} {bx bz : Obj} {X : World} (h : TS W w0 A n c hs l B q k js more A' cu c' N0 M0 bx bz X) (hz : w0.heap.size ≤ w2.heap.size) : TS W w2 A n c hs l B q k js more A' cu c' N0 M0 bx bz X :=
  ⟨h.bel, h.rl, h.hs.since hz, h.rv, h.js.since hz, h.cu, h.r0, h.r1⟩
theorem msame_self (ge ph tg tx rt pg li : Int) (xs : List UInt8) : msameB ge ph tg tx rt pg li xs ge ph tg tx rt pg li xs = true := decide_eq_true ⟨rfl, rfl, rfl, rfl, rfl, rfl, rfl, rfl⟩
theorem below_row {W X : World} {g : Nat} {cs : Array Value} (h : Below W.heap.size W X) (hg : W.heap.size ≤ g) : Below W.heap.size W (X.setRow g cs) :=
  ⟨h.os, h.tape, h.output, by have := h.size; simpa using this, fun k hk => (setRow_other _ _ _ _ (by omega)).trans (h.block k hk)⟩
set_option maxHeartbeats 32000000 in
set_option maxRecDepth 100000 in
theorem pagerTwo_any (ge ph tg tx rt pg li : Int) (A' : Option Addr) (cn c' : Nat) (cu : List UInt8) (A : Option Addr) (n c : Nat) (hs : List (Int × Option Addr × Nat × Nat)) (l : List (Int × List UInt8)) (B : Option Addr) (q k : Nat) (js : List (Int × Option Addr × Nat × Nat)) (more : List (Int × List UInt8)) (W : World) (hm : Bs W A' cn c' cu) (hr : Wrs W A n c hs l) (hv : Wrs W B q k js more) :
    Calls Try.prog 3 #[.agg #[.int .i64 ge, .int .i64 ph, .int .i64 tg, .int .i64 tx, .int .i64 rt, .int .i64 pg, .int .i64 li, .slice A' cn c'], .slice A n c, .slice B q k] W fun e w' => e = .returned (.bool true) ∧ Below W.heap.size W w' := by
  obtain rfl := hm.len
  obtain ⟨t2, ht2⟩ : ∃ x, IntKind.i64.wrap (tx + 1) = x := ⟨_, rfl⟩
  obtain ⟨bx, hbx⟩ : ∃ b : Obj, Obj.cells #[.int .i64 ge, .int .i64 ph, .int .i64 tg, .int .i64 tx, .int .i64 rt, .int .i64 pg, .int .i64 li, .slice A' cu.length c'] 24 = b := ⟨_, rfl⟩
  obtain ⟨bz, hbz⟩ : ∃ b : Obj, Obj.cells #[.int .i64 ge, .int .i64 ph, .int .i64 tg, .int .i64 t2, .int .i64 rt, .int .i64 pg, .int .i64 li, .slice A' cu.length c'] 24 = b := ⟨_, rfl⟩
  have hb0 : Below W.heap.size W ((W.alloc bx).alloc bz) := ((Below.refl _ W).alloc (Nat.le_refl _) bx).alloc (by simp) bz
  have hr0 : ((W.alloc bx).alloc bz).heap[W.heap.size]? = some bx := (((Below.refl _ (W.alloc bx)).alloc (Nat.le_refl _) bz).block _ (by simp)).trans (heap_alloc_new W bx)
  have hr1 : ((W.alloc bx).alloc bz).heap[W.heap.size + 1]? = some bz := by
    have := heap_alloc_new (W.alloc bx) bz
    rwa [show (W.alloc bx).heap.size = W.heap.size + 1 by simp] at this
  have HT := Aside0.mk (show TS W W A n c hs l B q k js more A' cu c' W.heap.size (W.heap.size + 1) bx bz ((W.alloc bx).alloc bz) from ⟨hb0, hr.rl.below hb0, hr.hs.below hb0, hv.rl.below hb0, hv.hs.below hb0, hm.below hb0, hr0, hr1⟩)
  have HL := Aside0.mk (And.intro hr.hs.len (And.intro hr.rl.len (And.intro hv.hs.len hv.rl.len)))
  have hcl := hm.lim
  replace hbx := Aside0.mk hbx
  replace hbz := Aside0.mk hbz
  clear hr hm hv hb0 hr0 hr1
  go_enter Try.func3, Try.ntmps3
  go_upto_region 3 with fail
  rw [hbx.out, hbz.out]
  obtain ⟨w1, hw1⟩ : ∃ X, (W.alloc bx).alloc bz = X := ⟨_, rfl⟩
  obtain ⟨N0, hN0⟩ : ∃ X, W.heap.size = X := ⟨_, rfl⟩
  obtain ⟨M0, hM0⟩ : ∃ X, W.heap.size + 1 = X := ⟨_, rfl⟩
  rw [hw1, hM0, hN0] at HT
  rw [hw1, hM0, hN0]
  clear hw1 hN0 hM0
  have hY := Aside0.mk (show ∀ w' : World, w'.heap[N0]? = some bx → w'.cell? ⟨N0, 0, none⟩ = some (.int .i64 ge) ∧ w'.cell? ⟨N0, 1, none⟩ = some (.int .i64 ph) ∧ w'.cell? ⟨N0, 2, none⟩ = some (.int .i64 tg) ∧ w'.cell? ⟨N0, 3, none⟩ = some (.int .i64 tx) ∧ w'.cell? ⟨N0, 4, none⟩ = some (.int .i64 rt) ∧ w'.cell? ⟨N0, 5, none⟩ = some (.int .i64 pg) ∧ w'.cell? ⟨N0, 6, none⟩ = some (.int .i64 li) ∧ w'.cell? ⟨N0, 7, none⟩ = some (.slice A' cu.length c') from fun w' hX => by rw [← hbx.out] at hX; exact row8_cells hX)
  have hZ := Aside0.mk (show ∀ w' : World, w'.heap[M0]? = some bz → w'.cell? ⟨M0, 0, none⟩ = some (.int .i64 ge) ∧ w'.cell? ⟨M0, 1, none⟩ = some (.int .i64 ph) ∧ w'.cell? ⟨M0, 2, none⟩ = some (.int .i64 tg) ∧ w'.cell? ⟨M0, 3, none⟩ = some (.int .i64 t2) ∧ w'.cell? ⟨M0, 4, none⟩ = some (.int .i64 rt) ∧ w'.cell? ⟨M0, 5, none⟩ = some (.int .i64 pg) ∧ w'.cell? ⟨M0, 6, none⟩ = some (.int .i64 li) ∧ w'.cell? ⟨M0, 7, none⟩ = some (.slice A' cu.length c') from fun w' hX => by rw [← hbz.out] at hX; exact row8_cells hX)
  clear hbx hbz
  obtain ⟨b1, hb1⟩ : ∃ b, fewB l ⟨ge, ph, tg, tx, rt, pg, li, cu⟩ = b := ⟨_, rfl⟩
  obtain ⟨b2, hb2⟩ : ∃ b, fewB more ⟨ge, ph, tg, t2, rt, pg, li, cu⟩ = b := ⟨_, rfl⟩
  obtain ⟨b3, hb3⟩ : ∃ b, prgB l ⟨ge, ph, tg, tx, rt, pg, li, cu⟩ = b := ⟨_, rfl⟩
  obtain ⟨b4, hb4⟩ : ∃ b, prgB more ⟨ge, ph, tg, t2, rt, pg, li, cu⟩ = b := ⟨_, rfl⟩
  replace hb1 := Aside0.mk hb1
  replace hb2 := Aside0.mk hb2
  replace hb3 := Aside0.mk hb3
  replace hb4 := Aside0.mk hb4
  replace ht2 := Aside0.mk ht2
  replace hcl := Aside0.mk hcl
  have iwt : IntKind.i64.wrap (tx + 1) = t2 := ht2.out
  have F1 := Aside0.mk (show b1 = true → n ≤ 12 ∧ l.length ≤ 12 ∧ totB l ≤ 5120 ∧ pg ≤ 40 from fun e => by
    obtain ⟨f1, f2, f3, f4⟩ := of_decide_eq_true (hb1.out.trans e)
    have := HL.out
    have f3 : pg ≤ 40 := f3
    omega)
  have F2 := Aside0.mk (show b2 = true → q ≤ 12 ∧ totB more ≤ 5120 from fun e => by
    obtain ⟨f1, f2, f3, f4⟩ := of_decide_eq_true (hb2.out.trans e)
    have := HL.out
    omega)
  clear iwt
  (obtain ⟨y0, y1, y2, y3, y4, y5, y6, y7⟩ := hY.out _ HT.out.r0); (obtain ⟨z0, z1, z2, z3, z4, z5, z6, z7⟩ := hZ.out _ HT.out.r1)
  cases b1 with
  | false =>
    go_wp2_with (first
      | (go_at_call 11; refine (alive12_any w2).mono ?_; rintro e3 w3 ⟨rfl, hB⟩; (have HE := Aside0.mk (H2.out.step hB)); clear hB)
      | (go_at_call 9; refine (few12_any A n c hs l ⟨ge, ph, tg, tx, rt, pg, li, cu⟩ A' c' w1 HT.out.rl HT.out.hs.hl hcl.out).mono ?_; rintro e2 w2 ⟨rfl, hB⟩; rw [hb1.out]; (have H2 := Aside0.mk (HT.out.step hB)); clear hB; clear y0 y1 y2 y3 y4 y5 y6 y7 z0 z1 z2 z3 z4 z5 z6 z7; (obtain ⟨y0, y1, y2, y3, y4, y5, y6, y7⟩ := hY.out _ H2.out.r0); (obtain ⟨z0, z1, z2, z3, z4, z5, z6, z7⟩ := hZ.out _ H2.out.r1))
      | fail)
    go_ret
    exact ⟨rfl, HE.out.bel⟩
  | true =>
    replace F1 := Aside0.mk (F1.out rfl)
    cases b2 with
    | false =>
      go_wp2_with (first
        | (go_at_call 11; refine (alive12_any w3).mono ?_; rintro e4 w4 ⟨rfl, hB⟩; (have HE := Aside0.mk (H3.out.step hB)); clear hB)
        | (go_at_call 9; refine (few12_any B q k js more ⟨ge, ph, tg, t2, rt, pg, li, cu⟩ A' c' w2 H2.out.rv H2.out.js.hl hcl.out).mono ?_; rintro e3 w3 ⟨rfl, hB⟩; rw [hb2.out]; (have H3 := Aside0.mk (H2.out.step hB)); clear hB; clear y0 y1 y2 y3 y4 y5 y6 y7 z0 z1 z2 z3 z4 z5 z6 z7; (obtain ⟨y0, y1, y2, y3, y4, y5, y6, y7⟩ := hY.out _ H3.out.r0); (obtain ⟨z0, z1, z2, z3, z4, z5, z6, z7⟩ := hZ.out _ H3.out.r1))
        | (go_at_call 9; refine (few12_any A n c hs l ⟨ge, ph, tg, tx, rt, pg, li, cu⟩ A' c' w1 HT.out.rl HT.out.hs.hl hcl.out).mono ?_; rintro e2 w2 ⟨rfl, hB⟩; rw [hb1.out]; (have H2 := Aside0.mk (HT.out.step hB)); clear hB; clear y0 y1 y2 y3 y4 y5 y6 y7 z0 z1 z2 z3 z4 z5 z6 z7; (obtain ⟨y0, y1, y2, y3, y4, y5, y6, y7⟩ := hY.out _ H2.out.r0); (obtain ⟨z0, z1, z2, z3, z4, z5, z6, z7⟩ := hZ.out _ H2.out.r1))
        | fail)
      go_ret
      exact ⟨rfl, HE.out.bel⟩
    | true =>
      replace F2 := Aside0.mk (F2.out rfl)
      cases b3 with
      | false =>
        go_wp2_with (first
          | (go_at_call 11; refine (alive12_any w4).mono ?_; rintro e5 w5 ⟨rfl, hB⟩; (have HE := Aside0.mk (H4.out.step hB)); clear hB)
          | (go_at_call 10; refine (rpright_any A n c hs l ⟨ge, ph, tg, tx, rt, pg, li, cu⟩ A' c' w3 (H3.out.rl.rc (by have := F1.out; omega)) H3.out.rl.len H3.out.hs.hl hcl.out).mono ?_; rintro e4 w4 ⟨rfl, hB⟩; rw [hb3.out]; (have H4 := Aside0.mk (H3.out.step hB)); clear hB; clear y0 y1 y2 y3 y4 y5 y6 y7 z0 z1 z2 z3 z4 z5 z6 z7; (obtain ⟨y0, y1, y2, y3, y4, y5, y6, y7⟩ := hY.out _ H4.out.r0); (obtain ⟨z0, z1, z2, z3, z4, z5, z6, z7⟩ := hZ.out _ H4.out.r1))
          | (go_at_call 9; refine (few12_any B q k js more ⟨ge, ph, tg, t2, rt, pg, li, cu⟩ A' c' w2 H2.out.rv H2.out.js.hl hcl.out).mono ?_; rintro e3 w3 ⟨rfl, hB⟩; rw [hb2.out]; (have H3 := Aside0.mk (H2.out.step hB)); clear hB; clear y0 y1 y2 y3 y4 y5 y6 y7 z0 z1 z2 z3 z4 z5 z6 z7; (obtain ⟨y0, y1, y2, y3, y4, y5, y6, y7⟩ := hY.out _ H3.out.r0); (obtain ⟨z0, z1, z2, z3, z4, z5, z6, z7⟩ := hZ.out _ H3.out.r1))
          | (go_at_call 9; refine (few12_any A n c hs l ⟨ge, ph, tg, tx, rt, pg, li, cu⟩ A' c' w1 HT.out.rl HT.out.hs.hl hcl.out).mono ?_; rintro e2 w2 ⟨rfl, hB⟩; rw [hb1.out]; (have H2 := Aside0.mk (HT.out.step hB)); clear hB; clear y0 y1 y2 y3 y4 y5 y6 y7 z0 z1 z2 z3 z4 z5 z6 z7; (obtain ⟨y0, y1, y2, y3, y4, y5, y6, y7⟩ := hY.out _ H2.out.r0); (obtain ⟨z0, z1, z2, z3, z4, z5, z6, z7⟩ := hZ.out _ H2.out.r1))
          | fail)
        go_ret
        exact ⟨rfl, HE.out.bel⟩
      | true =>
        cases b4 with
        | false =>
          go_wp2_with (first
            | (go_at_call 11; refine (alive12_any w5).mono ?_; rintro e6 w6 ⟨rfl, hB⟩; (have HE := Aside0.mk (H5.out.step hB)); clear hB)
            | (go_at_call 10; refine (rpright_any B q k js more ⟨ge, ph, tg, t2, rt, pg, li, cu⟩ A' c' w4 (H4.out.rv.rc (by have := F2.out; omega)) H4.out.rv.len H4.out.js.hl hcl.out).mono ?_; rintro e5 w5 ⟨rfl, hB⟩; rw [hb4.out]; (have H5 := Aside0.mk (H4.out.step hB)); clear hB; clear y0 y1 y2 y3 y4 y5 y6 y7 z0 z1 z2 z3 z4 z5 z6 z7; (obtain ⟨y0, y1, y2, y3, y4, y5, y6, y7⟩ := hY.out _ H5.out.r0); (obtain ⟨z0, z1, z2, z3, z4, z5, z6, z7⟩ := hZ.out _ H5.out.r1))
            | (go_at_call 10; refine (rpright_any A n c hs l ⟨ge, ph, tg, tx, rt, pg, li, cu⟩ A' c' w3 (H3.out.rl.rc (by have := F1.out; omega)) H3.out.rl.len H3.out.hs.hl hcl.out).mono ?_; rintro e4 w4 ⟨rfl, hB⟩; rw [hb3.out]; (have H4 := Aside0.mk (H3.out.step hB)); clear hB; clear y0 y1 y2 y3 y4 y5 y6 y7 z0 z1 z2 z3 z4 z5 z6 z7; (obtain ⟨y0, y1, y2, y3, y4, y5, y6, y7⟩ := hY.out _ H4.out.r0); (obtain ⟨z0, z1, z2, z3, z4, z5, z6, z7⟩ := hZ.out _ H4.out.r1))
            | (go_at_call 9; refine (few12_any B q k js more ⟨ge, ph, tg, t2, rt, pg, li, cu⟩ A' c' w2 H2.out.rv H2.out.js.hl hcl.out).mono ?_; rintro e3 w3 ⟨rfl, hB⟩; rw [hb2.out]; (have H3 := Aside0.mk (H2.out.step hB)); clear hB; clear y0 y1 y2 y3 y4 y5 y6 y7 z0 z1 z2 z3 z4 z5 z6 z7; (obtain ⟨y0, y1, y2, y3, y4, y5, y6, y7⟩ := hY.out _ H3.out.r0); (obtain ⟨z0, z1, z2, z3, z4, z5, z6, z7⟩ := hZ.out _ H3.out.r1))
            | (go_at_call 9; refine (few12_any A n c hs l ⟨ge, ph, tg, tx, rt, pg, li, cu⟩ A' c' w1 HT.out.rl HT.out.hs.hl hcl.out).mono ?_; rintro e2 w2 ⟨rfl, hB⟩; rw [hb1.out]; (have H2 := Aside0.mk (HT.out.step hB)); clear hB; clear y0 y1 y2 y3 y4 y5 y6 y7 z0 z1 z2 z3 z4 z5 z6 z7; (obtain ⟨y0, y1, y2, y3, y4, y5, y6, y7⟩ := hY.out _ H2.out.r0); (obtain ⟨z0, z1, z2, z3, z4, z5, z6, z7⟩ := hZ.out _ H2.out.r1))
            | fail)
          go_ret
          exact ⟨rfl, HE.out.bel⟩
        | true =>
          obtain ⟨f1, f2, f3, f4⟩ := F1.out
          have f5 := F2.out
          have hpb := prgB_pg hb3.out
          have hpb : 3 ≤ pg ∧ 1 ≤ tx ∧ tx ≤ 2147483647 := ⟨hpb.1, hpb.2.2⟩
          have ht3 : t2 = tx + 1 := by rw [← ht2.out]; exact IntWalk.i64_in _ (by omega)
          have F := Aside0.mk (two_ok (l := l) (more := more) (m := ⟨ge, ph, tg, tx, rt, pg, li, cu⟩) (n := ⟨ge, ph, tg, t2, rt, pg, li, cu⟩) ht3 rfl hb3.out hb4.out f4)
          have HPB := Aside0.mk (And.intro hpb (And.intro f4 (And.intro ht3 (And.intro f2 (And.intro f3 (And.intro f5.2 (And.intro f1 f5.1)))))))
          clear hpb ht3 f1 f2 f3 f4 f5
          go_upto_region 4 with (first
            | (go_at_call 10; refine (rpright_any B q k js more ⟨ge, ph, tg, t2, rt, pg, li, cu⟩ A' c' w4 (H4.out.rv.rc (by have := F2.out; omega)) H4.out.rv.len H4.out.js.hl hcl.out).mono ?_; rintro e5 w5 ⟨rfl, hB⟩; rw [hb4.out]; (have H5 := Aside0.mk (H4.out.step hB)); clear hB; clear y0 y1 y2 y3 y4 y5 y6 y7 z0 z1 z2 z3 z4 z5 z6 z7; (obtain ⟨y0, y1, y2, y3, y4, y5, y6, y7⟩ := hY.out _ H5.out.r0); (obtain ⟨z0, z1, z2, z3, z4, z5, z6, z7⟩ := hZ.out _ H5.out.r1))
            | (go_at_call 10; refine (rpright_any A n c hs l ⟨ge, ph, tg, tx, rt, pg, li, cu⟩ A' c' w3 (H3.out.rl.rc (by have := F1.out; omega)) H3.out.rl.len H3.out.hs.hl hcl.out).mono ?_; rintro e4 w4 ⟨rfl, hB⟩; rw [hb3.out]; (have H4 := Aside0.mk (H3.out.step hB)); clear hB; clear y0 y1 y2 y3 y4 y5 y6 y7 z0 z1 z2 z3 z4 z5 z6 z7; (obtain ⟨y0, y1, y2, y3, y4, y5, y6, y7⟩ := hY.out _ H4.out.r0); (obtain ⟨z0, z1, z2, z3, z4, z5, z6, z7⟩ := hZ.out _ H4.out.r1))
            | (go_at_call 9; refine (few12_any B q k js more ⟨ge, ph, tg, t2, rt, pg, li, cu⟩ A' c' w2 H2.out.rv H2.out.js.hl hcl.out).mono ?_; rintro e3 w3 ⟨rfl, hB⟩; rw [hb2.out]; (have H3 := Aside0.mk (H2.out.step hB)); clear hB; clear y0 y1 y2 y3 y4 y5 y6 y7 z0 z1 z2 z3 z4 z5 z6 z7; (obtain ⟨y0, y1, y2, y3, y4, y5, y6, y7⟩ := hY.out _ H3.out.r0); (obtain ⟨z0, z1, z2, z3, z4, z5, z6, z7⟩ := hZ.out _ H3.out.r1))
            | (go_at_call 9; refine (few12_any A n c hs l ⟨ge, ph, tg, tx, rt, pg, li, cu⟩ A' c' w1 HT.out.rl HT.out.hs.hl hcl.out).mono ?_; rintro e2 w2 ⟨rfl, hB⟩; rw [hb1.out]; (have H2 := Aside0.mk (HT.out.step hB)); clear hB; clear y0 y1 y2 y3 y4 y5 y6 y7 z0 z1 z2 z3 z4 z5 z6 z7; (obtain ⟨y0, y1, y2, y3, y4, y5, y6, y7⟩ := hY.out _ H2.out.r0); (obtain ⟨z0, z1, z2, z3, z4, z5, z6, z7⟩ := hZ.out _ H2.out.r1))
            | fail)
          have hBz : W.heap.size ≤ w5.heap.size := H5.out.bel.size
          have T5 := Aside0.mk (show TS W w5 A n c hs l B q k js more A' cu c' N0 M0 bx bz w5 from H5.out.since hBz)
          clear hBz y0 y1 y2 y3 y4 y5 y6 y7 z0 z1 z2 z3 z4 z5 z6 z7
          go_upto_region 9 with (first
            | (go_at_call 12; refine (new_h (w0 := w5) 400 w5 (Below.refl _ _)).mono ?_; rintro e6 w6 ⟨g, rfl, hH, _⟩; (have H6 := Aside0.mk (show DH w5 g [] (newDV 400) w6 from hH)); clear hH)
            | (go_at_call 13; refine (pnew_h H6.out).mono ?_; rintro e7 w7 ⟨rfl, hH, _⟩; (obtain ⟨gp, hgp⟩ : ∃ x, w6.heap.size = x := ⟨_, rfl⟩); rw [hgp] at hH; rw [hgp]; (have H7 := Aside0.mk hH); clear hH hgp)
            | fail)
          obtain ⟨w7d, hw7d⟩ : ∃ X, w7.drew = X := ⟨_, rfl⟩
          have H7d := Aside0.mk (show DH w5 g [(gp, pgo g)] (newDV 400) w7d from by rw [← hw7d]; exact H7.out.step (below_drew (Below.refl _ _)))
          have TH7d := Aside0.mk (T5.out.step H7d.out.bel)
          have SH7d := Aside0.mk (hY.out _ TH7d.out.r0)
          refine wp_region_M (fun j => decide (j < 4)) (fun w' => w'.cell? ⟨N0, 0, none⟩ = some (.int .i64 ge) ∧ w'.cell? ⟨N0, 1, none⟩ = some (.int .i64 ph) ∧ w'.cell? ⟨N0, 2, none⟩ = some (.int .i64 tg) ∧ w'.cell? ⟨N0, 3, none⟩ = some (.int .i64 tx) ∧ w'.cell? ⟨N0, 4, none⟩ = some (.int .i64 rt) ∧ w'.cell? ⟨N0, 5, none⟩ = some (.int .i64 pg) ∧ w'.cell? ⟨N0, 6, none⟩ = some (.int .i64 li) ∧ w'.cell? ⟨N0, 7, none⟩ = some (.slice A' cu.length c')) (by kernel_rfl) ?_
          rw [hw7d]
          clear hw7d
          refine wpAnyM_take (i := 0) (v := ?_) (by simp only [List.getElem?_toArray, List.getElem?_cons_succ, List.getElem?_cons_zero]; rfl) (by kernel_rfl) (by kernel_rfl) (by kernel_rfl) (by kernel_rfl) (by exact fun _ _ _ h => h) (Or.inl ⟨by rfl, ?_⟩) SH7d.out ?_
          rotate_left
          · (intro w' hSw; (try dsimp only at hSw); go_simp; try with_reducible rfl)
          try simp only [Act.put, List.setIfInBounds_toArray, List.set_cons_zero, List.set_cons_succ]
          refine wpAnyM_take (i := 1) (v := ?_) (by simp only [List.getElem?_toArray, List.getElem?_cons_succ, List.getElem?_cons_zero]; rfl) (by kernel_rfl) (by kernel_rfl) (by kernel_rfl) (by kernel_rfl) (by exact fun _ _ _ h => h) (Or.inl ⟨by rfl, ?_⟩) SH7d.out ?_
          rotate_left
          · (intro w' hSw; (try dsimp only at hSw); go_simp; try with_reducible rfl)
          try simp only [Act.put, List.setIfInBounds_toArray, List.set_cons_zero, List.set_cons_succ]
          refine wpAnyM_take (i := 3) (v := ?_) (by simp only [List.getElem?_toArray, List.getElem?_cons_succ, List.getElem?_cons_zero]; rfl) (by kernel_rfl) (by kernel_rfl) (by kernel_rfl) (by kernel_rfl) (by exact fun _ _ _ h => h) (Or.inl ⟨by rfl, ?_⟩) SH7d.out ?_
          rotate_left
          · (intro w' hSw; (try dsimp only at hSw); go_simp; try with_reducible rfl)
          try simp only [Act.put, List.setIfInBounds_toArray, List.set_cons_zero, List.set_cons_succ]
          refine wpAnyM_one (i := 2) (by kernel_rfl) (by simp only [List.getElem?_toArray, List.getElem?_cons_succ, List.getElem?_cons_zero]; rfl) ?_
          go_wp2_with (go_at_call 15; refine (wof_any A n c hs w7d (TH7d.out.rl.rc (by have := HPB.out; omega)) TH7d.out.rl.len).mono ?_; rintro e w7o ⟨Aw7o, cw7o, rfl, hO, hB⟩; (have H7o := Aside0.mk (And.intro (H7d.out.step hB) hO.rc)); clear hO hB)
          have TH7o := Aside0.mk (T5.out.step H7o.out.1.bel)
          refine ⟨hY.out _ TH7o.out.r0, ?_⟩
          try simp only [Act.put, List.setIfInBounds_toArray, List.set_cons_zero, List.set_cons_succ]
          refine wpAnyM_one (i := 4) (by kernel_rfl) (by simp only [List.getElem?_toArray, List.getElem?_cons_succ, List.getElem?_cons_zero]; rfl) ?_
          go_wp2_with (go_at_call 14; refine (commit_h H7o.out.1 List.mem_cons_self Aw7o n cw7o hs l ⟨ge, ph, tg, tx, rt, pg, li, cu⟩ A' c' 0 0 H7o.out.2 (TH7o.out.hs.up (fun p hp => by cases hp)) TH7o.out.rl.len TH7o.out.cu ((newDV_up 400).ab rfl (Int.le_refl 0) (Int.le_refl 0)) (by have := HPB.out; omega) (by have := HPB.out; omega) (by have := HPB.out; omega) (by have := HPB.out; show pg ≤ 1000000; omega)).mono ?_; rintro e w7c ⟨rfl, hH⟩; rw [F.out.e1]; (have H7c := Aside0.mk hH); clear hH)
          try simp only [Act.put, List.setIfInBounds_toArray, List.set_cons_zero, List.set_cons_succ]
          refine wpAnyM_take0 (i := 5) (v := ?_) (by simp only [List.getElem?_toArray, List.getElem?_cons_succ, List.getElem?_cons_zero]; rfl) (by kernel_rfl) (by kernel_rfl) (by kernel_rfl) (by rfl) (by exact fun _ _ _ h => h) (Or.inl ⟨by rfl, ?_⟩) ?_
          rotate_left
          · (intro w' _; go_simp; try with_reducible rfl)
          try simp only [Act.put, List.setIfInBounds_toArray, List.set_cons_zero, List.set_cons_succ]
          refine wpAnyM_done (by kernel_rfl) ?_ _
          obtain ⟨d1, hd1⟩ : ∃ x, (commitS (newDV 400) l ⟨ge, ph, tg, tx, rt, pg, li, cu⟩).2 = x := ⟨_, rfl⟩
          rw [hd1] at F H7c
          clear hd1
          go_upto_region 10 with fail
          obtain ⟨w7cd, hw7cd⟩ : ∃ X, w7c.drew = X := ⟨_, rfl⟩
          have H7cd := Aside0.mk (show DH w5 g [(gp, pgo g)] d1 w7cd from by rw [← hw7cd]; exact H7c.out.step (below_drew (Below.refl _ _)))
          have TH7cd := Aside0.mk (T5.out.step H7cd.out.bel)
          have SH7cd := Aside0.mk (hZ.out _ TH7cd.out.r1)
          refine wp_region_M (fun j => decide (j < 4)) (fun w' => w'.cell? ⟨M0, 0, none⟩ = some (.int .i64 ge) ∧ w'.cell? ⟨M0, 1, none⟩ = some (.int .i64 ph) ∧ w'.cell? ⟨M0, 2, none⟩ = some (.int .i64 tg) ∧ w'.cell? ⟨M0, 3, none⟩ = some (.int .i64 t2) ∧ w'.cell? ⟨M0, 4, none⟩ = some (.int .i64 rt) ∧ w'.cell? ⟨M0, 5, none⟩ = some (.int .i64 pg) ∧ w'.cell? ⟨M0, 6, none⟩ = some (.int .i64 li) ∧ w'.cell? ⟨M0, 7, none⟩ = some (.slice A' cu.length c')) (by kernel_rfl) ?_
          rw [hw7cd]
          clear hw7cd
          refine wpAnyM_take (i := 0) (v := ?_) (by simp only [List.getElem?_toArray, List.getElem?_cons_succ, List.getElem?_cons_zero]; rfl) (by kernel_rfl) (by kernel_rfl) (by kernel_rfl) (by kernel_rfl) (by exact fun _ _ _ h => h) (Or.inl ⟨by rfl, ?_⟩) SH7cd.out ?_
          rotate_left
          · (intro w' hSw; (try dsimp only at hSw); go_simp; try with_reducible rfl)
          try simp only [Act.put, List.setIfInBounds_toArray, List.set_cons_zero, List.set_cons_succ]
          refine wpAnyM_take (i := 1) (v := ?_) (by simp only [List.getElem?_toArray, List.getElem?_cons_succ, List.getElem?_cons_zero]; rfl) (by kernel_rfl) (by kernel_rfl) (by kernel_rfl) (by kernel_rfl) (by exact fun _ _ _ h => h) (Or.inl ⟨by rfl, ?_⟩) SH7cd.out ?_
          rotate_left
          · (intro w' hSw; (try dsimp only at hSw); go_simp; try with_reducible rfl)
          try simp only [Act.put, List.setIfInBounds_toArray, List.set_cons_zero, List.set_cons_succ]
          refine wpAnyM_take (i := 3) (v := ?_) (by simp only [List.getElem?_toArray, List.getElem?_cons_succ, List.getElem?_cons_zero]; rfl) (by kernel_rfl) (by kernel_rfl) (by kernel_rfl) (by kernel_rfl) (by exact fun _ _ _ h => h) (Or.inl ⟨by rfl, ?_⟩) SH7cd.out ?_
          rotate_left
          · (intro w' hSw; (try dsimp only at hSw); go_simp; try with_reducible rfl)
          try simp only [Act.put, List.setIfInBounds_toArray, List.set_cons_zero, List.set_cons_succ]
          refine wpAnyM_one (i := 2) (by kernel_rfl) (by simp only [List.getElem?_toArray, List.getElem?_cons_succ, List.getElem?_cons_zero]; rfl) ?_
          go_wp2_with (go_at_call 15; refine (wof_any B q k js w7cd (TH7cd.out.rv.rc (by have := HPB.out; omega)) TH7cd.out.rv.len).mono ?_; rintro e w7co ⟨Aw7co, cw7co, rfl, hO, hB⟩; (have H7co := Aside0.mk (And.intro (H7cd.out.step hB) hO.rc)); clear hO hB)
          have TH7co := Aside0.mk (T5.out.step H7co.out.1.bel)
          refine ⟨hZ.out _ TH7co.out.r1, ?_⟩
          try simp only [Act.put, List.setIfInBounds_toArray, List.set_cons_zero, List.set_cons_succ]
          refine wpAnyM_one (i := 4) (by kernel_rfl) (by simp only [List.getElem?_toArray, List.getElem?_cons_succ, List.getElem?_cons_zero]; rfl) ?_
          go_wp2_with (go_at_call 14; refine (commit_h H7co.out.1 List.mem_cons_self Aw7co q cw7co js more ⟨ge, ph, tg, t2, rt, pg, li, cu⟩ A' c' 0 16 H7co.out.2 (TH7co.out.js.up (fun p hp => by cases hp)) TH7co.out.rv.len TH7co.out.cu (F.out.u1.ab F.out.r1 (by rw [F.out.o1]; omega) (by rw [F.out.o1]; have := HPB.out; omega)) (by have := HPB.out; omega) (by have := HPB.out; omega) (by have := HPB.out; omega) (by have := HPB.out; show pg ≤ 1000000; omega)).mono ?_; rintro e w7cc ⟨rfl, hH⟩; rw [F.out.e2]; (have H7cc := Aside0.mk hH); clear hH)
          try simp only [Act.put, List.setIfInBounds_toArray, List.set_cons_zero, List.set_cons_succ]
          refine wpAnyM_take0 (i := 5) (v := ?_) (by simp only [List.getElem?_toArray, List.getElem?_cons_succ, List.getElem?_cons_zero]; rfl) (by kernel_rfl) (by kernel_rfl) (by kernel_rfl) (by rfl) (by exact fun _ _ _ h => h) (Or.inl ⟨by rfl, ?_⟩) ?_
          rotate_left
          · (intro w' _; go_simp; try with_reducible rfl)
          try simp only [Act.put, List.setIfInBounds_toArray, List.set_cons_zero, List.set_cons_succ]
          refine wpAnyM_done (by kernel_rfl) ?_ _
          obtain ⟨d2, hd2⟩ : ∃ x, (commitS d1 more ⟨ge, ph, tg, t2, rt, pg, li, cu⟩).2 = x := ⟨_, rfl⟩
          rw [hd2] at F H7cc
          clear hd2
          obtain ⟨av, hav, hav2⟩ : ∃ v : Nat, (v : Int) = t2 % 2 ∧ v < 2 := ⟨(t2 % 2).toNat, by omega, by omega⟩
          have hav3 : (t2 % 2).toNat = av := by omega
          have hav4 : tx % 2 = 1 - (av : Int) := by rw [hav]; have := HPB.out.2.2.1; omega
          obtain ⟨kn, hkn⟩ : ∃ x, nD d2 * 64 = x := ⟨_, rfl⟩
          obtain ⟨x, hx⟩ : ∃ x, seenL d2.l d2.row = x := ⟨_, rfl⟩
          have G1 := Aside0.mk (show newAt d2 = (av : Int) ∧ newE d2 = 0 ∧ newM d2 = ⟨ge, ph, tg, t2, rt, pg, li, cu⟩ ∧ 768 ≤ kn ∧ kn ≤ 10240 ∧ x.length = kn by
            refine ⟨F.out.nat.trans hav.symm, F.out.ne, F.out.nm, ?_, ?_, by rw [← hx, ← hkn]; exact F.out.len⟩ <;> (have h1 := F.out.n2; have h1 : nD d2 = 4 * pg.toNat := h1; have := HPB.out; omega))
          have G2 := Aside0.mk (show newAt (lodD (putL x (List.replicate 256 0) (256 * av)) 400) = 1 - (av : Int) ∧ newE (lodD (putL x (List.replicate 256 0) (256 * av)) 400) = 0 ∧ newM (lodD (putL x (List.replicate 256 0) (256 * av)) 400) = ⟨ge, ph, tg, tx, rt, pg, li, cu⟩ by
            have h1 := F.out.at3
            have h2 := F.out.ne3
            have h3 := F.out.nm3
            rw [hx, show (MV.tx ⟨ge, ph, tg, t2, rt, pg, li, cu⟩ % 2).toNat = av from hav3] at h1 h2 h3
            exact ⟨h1.trans hav4, h2, h3⟩)
          have HX := Aside0.mk (And.intro hx hkn)
          have HAV := Aside0.mk hav2
          have NA : ∀ A1 c1, (newM d2).agg A1 c1 = #[.int .i64 ge, .int .i64 ph, .int .i64 tg, .int .i64 t2, .int .i64 rt, .int .i64 pg, .int .i64 li, .slice A1 cu.length c1] := fun A1 c1 => by rw [G1.out.2.2.1]; rfl
          replace NA := Aside0.mk NA
          have NB : ∀ A1 c1, (newM (lodD (putL x (List.replicate 256 0) (256 * av)) 400)).agg A1 c1 = #[.int .i64 ge, .int .i64 ph, .int .i64 tg, .int .i64 tx, .int .i64 rt, .int .i64 pg, .int .i64 li, .slice A1 cu.length c1] := fun A1 c1 => by rw [G2.out.2.2]; rfl
          replace NB := Aside0.mk NB
          clear hx hkn hav2 hav hav3 hav4 F
          go_upto_region 12 with (go_at_call 16; refine (newest_h H7cc.out List.mem_cons_self).mono ?_; rintro e w8 ⟨A1, c1, rfl, hb, hB⟩; rw [NA.out, G1.out.1, G1.out.2.1]; rw [G1.out.2.2.1] at hb; (have H8 := Aside0.mk (And.intro (H7cc.out.step hB) (show Bs w8 A1 cu.length c1 cu from hb))); clear hb hB)
          obtain ⟨N8, hN8⟩ : ∃ x, w8.heap.size = x := ⟨_, rfl⟩
          obtain ⟨o8, ho8⟩ : ∃ o, Obj.cells #[.int .i64 ge, .int .i64 ph, .int .i64 tg, .int .i64 t2, .int .i64 rt, .int .i64 pg, .int .i64 li, .slice A1 cu.length c1] 36 = o := ⟨_, rfl⟩
          have hB9 := (Below.refl _ w8).alloc (Nat.le_refl _) o8
          have H9 := Aside0.mk (And.intro (H8.out.1.step hB9) (And.intro (H8.out.2.below hB9) (heap_alloc_new w8 o8)))
          rw [hN8] at H9 ⊢
          rw [ho8]
          obtain ⟨w9, hw9⟩ : ∃ X, w8.alloc o8 = X := ⟨_, rfl⟩
          rw [hw9] at H9 ⊢
          have HO := Aside0.mk ho8
          clear hB9 hw9 ho8 hN8
          have T9 := Aside0.mk (T5.out.step H9.out.1.bel)
          go_upto_region 13 with (go_at_call 17; refine (image_h H9.out.1).mono ?_; rintro e wa ⟨A3, c3, rfl, hO, hB⟩; rw [HX.out.1, HX.out.2] at hO; rw [HX.out.2]; (have HA := Aside0.mk (And.intro hO hB)); clear hO hB)
          obtain ⟨wb, hwb⟩ : ∃ X, wa.drew = X := ⟨_, rfl⟩
          have HB := Aside0.mk (show Ow wb w9.heap.size A3 kn c3 x ∧ Below w9.heap.size w9 wb from by rw [← hwb]; exact ⟨HA.out.1.below (below_drew (Below.refl _ _)), below_drew HA.out.2⟩)
          have hkn := G1.out.2.2.2
          have hc3 := HB.out.1.bs.le
          have hc4 := HB.out.1.bs.cap
          have hav := HAV.out
          obtain ⟨gi, rfl, hgi⟩ : ∃ g, A3 = some ⟨g, 0, none⟩ ∧ w9.heap.size ≤ g := by
            obtain ⟨⟨h1, h2⟩, hl⟩ := HB.out.1
            rcases h2 with ⟨e, h0⟩ | ⟨g', cap, cur, e, hg, _⟩
            · injection e with e1 e2 e3
              omega
            · injection e with e1 e2 e3
              exact ⟨g', e1, hg⟩
          have HZ := Aside0.mk (show Ow (wb.alloc (.cells (madeCells #[.int .u8 0] 256) 5)) wb.heap.size (some ⟨wb.heap.size, 0, none⟩) 256 256 (List.replicate 256 0) from Ow.made wb wb.heap.size wb.heap.size rfl (Nat.le_refl _) 256 (by omega))
          have HW := Aside0.mk (HB.out.1.below ((Below.refl _ wb).alloc (Nat.le_refl _) (.cells (madeCells #[.int .u8 0] 256) 5)))
          have HWB := Aside0.mk (below_then HB.out.2 HB.out.2.size ((Below.refl _ wb).alloc (Nat.le_refl _) (.cells (madeCells #[.int .u8 0] 256) 5)))
          have hmk : ∀ W : World, (Instr.makeSlice 22 (.int .i64 256) (.int .i64 256)).run Try.prog W = .ok (.slice (some ⟨W.heap.size, 0, none⟩) 256 256) (W.alloc (.cells (madeCells #[.int .u8 0] 256) 5)) := mk8 256 (by omega)
          have w1' : IntKind.i64.wrap ((av : Int) * 256) = (av : Int) * 256 := IntWalk.i64_in _ (by omega)
          have t1 : ∀ W : World, (Instr.slice 22 (.slice (some ⟨gi, 0, none⟩) kn c3) (some (.int .i64 ((av : Int) * 256))) none none).run Try.prog W = .ok (.slice (some ⟨gi, 256 * av, none⟩) (kn - 256 * av) (c3 - 256 * av)) W := fun W => by
            rw [sl8_l W _ kn c3 .i64 _ (by omega) (by omega), show ((av : Int) * 256).toNat = 256 * av by omega]
            unfold cutA
            rw [if_neg (by omega), Option.map_some, add_plain]
          have C0 := Aside0.mk (And.intro hkn (And.intro hc3 (And.intro hc4 hav)))
          clear hkn hc3 hc4 hav
          refine wp_region_M (fun j => false) (fun _ => True) (by kernel_rfl) ?_
          rw [hwb]
          clear hwb
          refine wpAnyM_take0 (i := 0) (v := ?_) (by simp only [List.getElem?_toArray, List.getElem?_cons_succ, List.getElem?_cons_zero]; rfl) (by kernel_rfl) (by kernel_rfl) (by kernel_rfl) (by rfl) (by exact fun _ _ _ h => h) (Or.inl ⟨by rfl, ?_⟩) ?_
          rotate_left
          · (intro w' _; go_simp; try with_reducible rfl)
          try simp only [Act.put, List.setIfInBounds_toArray, List.set_cons_zero, List.set_cons_succ]
          refine wpAnyM_take0 (i := 1) (v := ?_) (by simp only [List.getElem?_toArray, List.getElem?_cons_succ, List.getElem?_cons_zero]; rfl) (by kernel_rfl) (by kernel_rfl) (by kernel_rfl) (by rfl) (by exact fun _ _ _ h => h) (Or.inl ⟨by rfl, ?_⟩) ?_
          rotate_left
          · (intro w' _; go_simp; try with_reducible rfl)
          try simp only [Act.put, List.setIfInBounds_toArray, List.set_cons_zero, List.set_cons_succ]
          refine wpAnyM_take0 (i := 2) (v := ?_) (by simp only [List.getElem?_toArray, List.getElem?_cons_succ, List.getElem?_cons_zero]; rfl) (by kernel_rfl) (by kernel_rfl) (by kernel_rfl) (by rfl) (by exact fun _ _ _ h => h) (Or.inl ⟨by rfl, ?_⟩) ?_
          rotate_left
          · (intro w' _; go_simp; try with_reducible rfl)
          try simp only [Act.put, List.setIfInBounds_toArray, List.set_cons_zero, List.set_cons_succ]
          refine wpAnyM_take0 (i := 3) (v := ?_) (by simp only [List.getElem?_toArray, List.getElem?_cons_succ, List.getElem?_cons_zero]; rfl) (by kernel_rfl) (by kernel_rfl) (by kernel_rfl) (by rfl) (by exact fun _ _ _ h => h) (Or.inl ⟨by rfl, ?_⟩) ?_
          rotate_left
          · (intro w' _; go_simp; try with_reducible rfl)
          try simp only [Act.put, List.setIfInBounds_toArray, List.set_cons_zero, List.set_cons_succ]
          refine wpAnyM_one (i := 4) (by kernel_rfl) (by simp only [List.getElem?_toArray, List.getElem?_cons_succ, List.getElem?_cons_zero]; rfl) ?_
          go_wp2_with fail
          try simp only [Act.put, List.setIfInBounds_toArray, List.set_cons_zero, List.set_cons_succ]
          obtain ⟨wm, hwm⟩ : ∃ X, wb.alloc (.cells (madeCells #[.int .u8 0] 256) 5) = X := ⟨_, rfl⟩
          obtain ⟨gz, hgz⟩ : ∃ X, wb.heap.size = X := ⟨_, rfl⟩
          rw [hwm] at HZ HW HWB
          rw [hgz] at HZ
          rw [hwm, hgz]
          clear hwm hgz
          have hz256 : (List.replicate 256 (0 : UInt8)).length = 256 := List.length_replicate
          obtain ⟨cur, hcur, hcs, hOw⟩ := HW.out.splice8 (a := 256 * av) (ys := List.replicate 256 0) (by rw [hz256]; have := C0.out; omega)
          have hsrc : ∀ (t : Nat) (v : Value), (u8v (List.replicate 256 0))[t]? = some v → wm.cell? ((⟨gz, 0, none⟩ : Addr).add t) = some v := fun t v hv => by
            have hb := HZ.out.bs
            obtain ⟨ak, hak, hxx⟩ := hb.cells (by omega)
            injection hak with hak
            rw [hak]
            have ht : t < (List.replicate 256 (0 : UInt8)).length := by
              have := (List.getElem?_eq_some_iff.1 hv).1
              rwa [u8v_length] at this
            rw [u8v_get _ t ht] at hv
            injection hv with hv
            rw [← hv]
            exact hxx t (by rw [hz256] at ht; exact ht)
          have C1 := Aside0.mk (show (u8v (List.replicate 256 0)).length = Nat.min 256 (kn - 256 * av) by rw [u8v_length, hz256]; exact (Nat.min_eq_left (by have := C0.out; omega)).symm)
          have C2 := Aside0.mk hsrc
          have C3 := Aside0.mk (show 256 * av + (u8v (List.replicate 256 0)).length ≤ cur.size by rw [u8v_length]; exact hcs)
          have C4 := Aside0.mk hcur
          have C5 := Aside0.mk (And.intro hOw (below_row (cs := (cur.toList.take (256 * av) ++ (u8v (List.replicate 256 0) ++ cur.toList.drop (256 * av + (u8v (List.replicate 256 0)).length))).toArray) HWB.out hgi))
          have C6 := Aside0.mk (show (Try.prog.info? 5).map (·.size) = some 1 by kernel_rfl)
          clear hsrc hcs hcur hOw hz256
          refine wpAnyM_one (i := 5) (by kernel_rfl) (by simp only [List.getElem?_toArray, List.getElem?_cons_succ, List.getElem?_cons_zero]; rfl) ?_
          refine wpList_copy_own (by rfl) (.tmp 73) (.tmp 74) _ _ (by rfl) 5 Try.underlying22 C6.out gi (256 * av) (kn - 256 * av) (c3 - 256 * av) ⟨gz, 0, none⟩ 256 256 (by rfl) (by rfl) cur 5 C4.out (u8v (List.replicate 256 0)) C1.out C2.out C3.out (u8v_one _) ?_
          refine wpl_nil ⟨rfl, fun z => absurd z (by decide), ?_⟩
          try simp only [Act.put, List.setIfInBounds_toArray, List.set_cons_zero, List.set_cons_succ]
          refine wpAnyM_done (by kernel_rfl) ?_ _
          obtain ⟨wc, hwc⟩ : ∃ X, wm.setRow gi (cur.toList.take (256 * av) ++ (u8v (List.replicate 256 0) ++ cur.toList.drop (256 * av + (u8v (List.replicate 256 0)).length))).toArray = X := ⟨_, rfl⟩
          rw [hwc] at C5 ⊢
          clear hwc t1 w1' hmk HZ HW HWB HB HA C1 C2 C3 C4 C6
          have TC := Aside0.mk (T9.out.step C5.out.2)
          have H9c := Aside0.mk (And.intro (H9.out.2.1.below C5.out.2) ((C5.out.2.block _ (Array.getElem?_eq_some_iff.1 H9.out.2.2).1).trans H9.out.2.2))
          have hlod : lodD (putL x (List.replicate 256 0) (256 * av)) 400 = ⟨limI 400, loadL (putL x (List.replicate 256 0) (256 * av)) (cntL kn (limI 400)), [], 0, -1, false⟩ := by
            unfold lodD
            rw [show (putL x (List.replicate 256 0) (256 * av)).length = kn from C5.out.1.bs.len]
          replace hlod := Aside0.mk hlod
          go_upto_region 15 with (first
            | (go_at_call 18; refine (load_h (w0 := wc) _ kn c3 (putL x (List.replicate 256 0) (256 * av)) 400 wc C5.out.1.bs (by have := C0.out; omega) (Below.refl _ _)).mono ?_; rintro e we ⟨g3, rfl, hH, _⟩; rw [← hlod.out] at hH; (have HE := Aside0.mk hH); clear hH)
            | (go_at_call 13; refine (pnew_h HE.out).mono ?_; rintro e wf ⟨rfl, hH, _⟩; (obtain ⟨gq, hgq⟩ : ∃ x, we.heap.size = x := ⟨_, rfl⟩); rw [hgq] at hH; rw [hgq]; (have HF := Aside0.mk hH); clear hH hgq)
            | (go_at_call 16; refine (newest_h HF.out List.mem_cons_self).mono ?_; rintro e wg ⟨A5, c5, rfl, hb, hB⟩; rw [NB.out, G2.out.1, G2.out.2.1]; rw [G2.out.2.2] at hb; (have HG := Aside0.mk (And.intro (HF.out.step hB).bel (show Bs wg A5 cu.length c5 cu from hb))); clear hb hB)
            | fail)
          obtain ⟨Ng, hNg⟩ : ∃ x, wg.heap.size = x := ⟨_, rfl⟩
          obtain ⟨og, hog⟩ : ∃ o, Obj.cells #[.int .i64 ge, .int .i64 ph, .int .i64 tg, .int .i64 tx, .int .i64 rt, .int .i64 pg, .int .i64 li, .slice A5 cu.length c5] 36 = o := ⟨_, rfl⟩
          have hBg := (Below.refl _ wg).alloc (Nat.le_refl _) og
          have HH := Aside0.mk (And.intro (below_then HG.out.1 HG.out.1.size hBg) (And.intro (HG.out.2.below hBg) (heap_alloc_new wg og)))
          rw [hNg] at HH ⊢
          rw [hog]
          obtain ⟨wh, hwh⟩ : ∃ X, wg.alloc og = X := ⟨_, rfl⟩
          rw [hwh] at HH ⊢
          have HOG := Aside0.mk hog
          clear hBg hwh hog hNg
          have TH := Aside0.mk (TC.out.step HH.out.1)
          have H9h := Aside0.mk (And.intro (H9c.out.1.below HH.out.1) ((HH.out.1.block _ (Array.getElem?_eq_some_iff.1 H9c.out.2).1).trans H9c.out.2))
          have hX8 := Aside0.mk (show ∀ w' : World, w'.heap[N8]? = some o8 → w'.cell? ⟨N8, 0, none⟩ = some (.int .i64 ge) ∧ w'.cell? ⟨N8, 1, none⟩ = some (.int .i64 ph) ∧ w'.cell? ⟨N8, 2, none⟩ = some (.int .i64 tg) ∧ w'.cell? ⟨N8, 3, none⟩ = some (.int .i64 t2) ∧ w'.cell? ⟨N8, 4, none⟩ = some (.int .i64 rt) ∧ w'.cell? ⟨N8, 5, none⟩ = some (.int .i64 pg) ∧ w'.cell? ⟨N8, 6, none⟩ = some (.int .i64 li) ∧ w'.cell? ⟨N8, 7, none⟩ = some (.slice A1 cu.length c1) from fun w' hX => by rw [← HO.out] at hX; exact row8_cells hX)
          have hXg := Aside0.mk (show ∀ w' : World, w'.heap[Ng]? = some og → w'.cell? ⟨Ng, 0, none⟩ = some (.int .i64 ge) ∧ w'.cell? ⟨Ng, 1, none⟩ = some (.int .i64 ph) ∧ w'.cell? ⟨Ng, 2, none⟩ = some (.int .i64 tg) ∧ w'.cell? ⟨Ng, 3, none⟩ = some (.int .i64 tx) ∧ w'.cell? ⟨Ng, 4, none⟩ = some (.int .i64 rt) ∧ w'.cell? ⟨Ng, 5, none⟩ = some (.int .i64 pg) ∧ w'.cell? ⟨Ng, 6, none⟩ = some (.int .i64 li) ∧ w'.cell? ⟨Ng, 7, none⟩ = some (.slice A5 cu.length c5) from fun w' hX => by rw [← HOG.out] at hX; exact row8_cells hX)
          have w2' : IntKind.i64.wrap (1 - (av : Int)) = 1 - (av : Int) := IntWalk.i64_in _ (by have := C0.out; omega)
          have ms1 := Aside0.mk (msame_self ge ph tg t2 rt pg li cu)
          have ms2 := Aside0.mk (msame_self ge ph tg tx rt pg li cu)
          have XH := Aside0.mk (And.intro H9h.out.1 (And.intro H9h.out.2 (And.intro HH.out.2.1 HH.out.2.2)))
          go_wp2_with (first
            | (go_at_call 11; with_reducible refine (alive12_any wh).mono ?_; rintro e wi ⟨rfl, hB⟩; (have TI := Aside0.mk (TH.out.step hB)); (have XI := Aside0.mk (And.intro (XH.out.1.below hB) (And.intro ((hB.block _ (Array.getElem?_eq_some_iff.1 XH.out.2.1).1).trans XH.out.2.1) (And.intro (XH.out.2.2.1.below hB) ((hB.block _ (Array.getElem?_eq_some_iff.1 XH.out.2.2.2).1).trans XH.out.2.2.2))))); clear hB; (obtain ⟨y0, y1, y2, y3, y4, y5, y6, y7⟩ := hY.out _ TI.out.r0); (obtain ⟨z0, z1, z2, z3, z4, z5, z6, z7⟩ := hZ.out _ TI.out.r1); (obtain ⟨u0, u1, u2, u3, u4, u5, u6, u7⟩ := hX8.out _ XI.out.2.1); (obtain ⟨v0, v1, v2, v3, v4, v5, v6, v7⟩ := hXg.out _ XI.out.2.2.2))
            | (go_at_call 19; with_reducible refine (rmsame_any ge ph tg t2 rt pg li A1 cu.length c1 cu ge ph tg t2 rt pg li A' cu.length c' cu wi XI.out.1 TI.out.cu).mono ?_; rintro e wj ⟨rfl, hB⟩; rw [ms1.out]; (have TJ := Aside0.mk (TI.out.step hB)); (have XJ := Aside0.mk (And.intro (XI.out.1.below hB) (And.intro ((hB.block _ (Array.getElem?_eq_some_iff.1 XI.out.2.1).1).trans XI.out.2.1) (And.intro (XI.out.2.2.1.below hB) ((hB.block _ (Array.getElem?_eq_some_iff.1 XI.out.2.2.2).1).trans XI.out.2.2.2))))); clear hB; clear y0 y1 y2 y3 y4 y5 y6 y7 z0 z1 z2 z3 z4 z5 z6 z7 u0 u1 u2 u3 u4 u5 u6 u7 v0 v1 v2 v3 v4 v5 v6 v7; (obtain ⟨y0, y1, y2, y3, y4, y5, y6, y7⟩ := hY.out _ TJ.out.r0); (obtain ⟨z0, z1, z2, z3, z4, z5, z6, z7⟩ := hZ.out _ TJ.out.r1); (obtain ⟨u0, u1, u2, u3, u4, u5, u6, u7⟩ := hX8.out _ XJ.out.2.1); (obtain ⟨v0, v1, v2, v3, v4, v5, v6, v7⟩ := hXg.out _ XJ.out.2.2.2))
            | (go_at_call 19; with_reducible refine (rmsame_any ge ph tg tx rt pg li A5 cu.length c5 cu ge ph tg tx rt pg li A' cu.length c' cu wj XJ.out.2.2.1 TJ.out.cu).mono ?_; rintro e wk ⟨rfl, hB⟩; rw [ms2.out]; (have TK := Aside0.mk (TJ.out.step hB)); clear hB; clear y0 y1 y2 y3 y4 y5 y6 y7 z0 z1 z2 z3 z4 z5 z6 z7 u0 u1 u2 u3 u4 u5 u6 u7 v0 v1 v2 v3 v4 v5 v6 v7)
            | fail)
          go_ret
          exact ⟨rfl, TK.out.bel⟩
end Go.Proofs.Ythhalmjapiempaa
