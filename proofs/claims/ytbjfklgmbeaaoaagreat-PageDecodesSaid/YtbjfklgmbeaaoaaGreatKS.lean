/- The walk of ref06's Same, where both hold the same. -/
import Derived.Test.YtbjfklgmbeaaoaaGreatKR
set_option linter.unusedVariables false
set_option linter.unusedSimpArgs false
namespace Go.Proofs.YtbjfklgmbeaaoaaGreat
open Go.RowKit

set_option maxHeartbeats 8000000 in
set_option maxRecDepth 100000 in
theorem r6same_any (h k : NH) (is js : List IH) (ks ls : List KH) (v : NV) (w : World) (h1 : Nd w h is ks v) (h2 : Nd w k js ls v) :
    Calls Tryz.prog 8 #[.agg (nhv h), .agg (nhv k)] w fun e w' => e = .returned (.bool true) ∧ Below w.heap.size w w' := by
  obtain ⟨lf, ⟨IA, In, Ic⟩, ⟨KA, Kn, Kc⟩⟩ := h
  obtain ⟨lg, ⟨JA, Jn, Jc⟩, ⟨LA, Ln, Lc⟩⟩ := k
  obtain rfl : lg = lf := h2.leaf.trans h1.leaf.symm
  obtain rfl : Jn = In := by have a := h1.li; have b := h2.li; have c := h1.its.len; have d := h2.its.len; simp only at a b; omega
  obtain rfl : Ln = Kn := by have a := h1.lk; have b := h2.lk; have c := h1.kds.len; have d := h2.kds.len; simp only at a b; omega
  have hbi : Jn ≤ 1000 := h1.bi
  have hbk : Ln ≤ 1000 := h1.bk
  have g1 : (lg != lg) = false := bne_self_eq_false lg
  have g2 : ((Jn : Int) != (Jn : Int)) = false := bne_self_eq_false _
  have g3 : ((Ln : Int) != (Ln : Int)) = false := bne_self_eq_false _
  have hB := below_two w (.cells #[.bool lg, .slice IA Jn Ic, .slice KA Ln Kc] 35) (.cells #[.bool lg, .slice JA Jn Jc, .slice LA Ln Lc] 35)
  have hs2 : (w.alloc (.cells #[.bool lg, .slice IA Jn Ic, .slice KA Ln Kc] 35)).heap.size = w.heap.size + 1 := by simp
  have hra := (((Below.refl _ (w.alloc (.cells #[.bool lg, .slice IA Jn Ic, .slice KA Ln Kc] 35))).alloc (Nat.le_refl _) (.cells #[.bool lg, .slice JA Jn Jc, .slice LA Ln Lc] 35)).block w.heap.size (by omega)).trans (heap_alloc_new w (.cells #[.bool lg, .slice IA Jn Ic, .slice KA Ln Kc] 35))
  have hrb := heap_two w (.cells #[.bool lg, .slice IA Jn Ic, .slice KA Ln Kc] 35) (.cells #[.bool lg, .slice JA Jn Jc, .slice LA Ln Lc] 35)
  have HN := Aside0.mk (And.intro (h1.below hB) (h2.below hB))
  have H0 := Aside0.mk (And.intro hB (And.intro hra hrb))
  clear h1 h2 hB hs2 hra hrb
  show Calls Tryz.prog 8 #[.agg #[.bool lg, .slice IA Jn Ic, .slice KA Ln Kc], .agg #[.bool lg, .slice JA Jn Jc, .slice LA Ln Lc]] w _
  go_enter Tryz.func8, Tryz.ntmps8
  go_upto_region 1 with fail
  obtain ⟨w0, hw0⟩ : ∃ X, (w.alloc (.cells #[.bool lg, .slice IA Jn Ic, .slice KA Ln Kc] 35)).alloc (.cells #[.bool lg, .slice JA Jn Jc, .slice LA Ln Lc] 35) = X := ⟨_, rfl⟩
  obtain ⟨N, hN⟩ : ∃ X, w.heap.size = X := ⟨_, rfl⟩
  obtain ⟨N1, hN1⟩ : ∃ X, w.heap.size + 1 = X := ⟨_, rfl⟩
  have H1 := Aside0.mk (show w0.heap[N]? = some (.cells #[.bool lg, .slice IA Jn Ic, .slice KA Ln Kc] 35) ∧ w0.heap[N1]? = some (.cells #[.bool lg, .slice JA Jn Jc, .slice LA Ln Lc] 35) from ⟨by rw [← hw0, ← hN]; exact H0.out.2.1, by rw [← hw0, ← hN1]; exact H0.out.2.2⟩)
  have HB0 := Aside0.mk (show Below w.heap.size w w0 by rw [← hw0]; exact H0.out.1)
  rw [hw0] at HN
  rw [hw0, hN1, hN]
  clear hw0 hN hN1 H0
  have HR := Aside0.mk (show ∀ X : World, Below w0.heap.size w0 X → X.heap[N]? = some (.cells #[.bool lg, .slice IA Jn Ic, .slice KA Ln Kc] 35) ∧ X.heap[N1]? = some (.cells #[.bool lg, .slice JA Jn Jc, .slice LA Ln Lc] 35) from fun X hX => ⟨(hX.block _ (Array.getElem?_eq_some_iff.1 H1.out.1).1).trans H1.out.1, (hX.block _ (Array.getElem?_eq_some_iff.1 H1.out.2).1).trans H1.out.2⟩)
  obtain ⟨y0, y1, y2⟩ := nd_cells H1.out.1
  obtain ⟨z0, z1, z2⟩ := nd_cells H1.out.2
  go_wp2_with fail
  clear y0 y1 y2 z0 z1 z2
  go_loopg [5] Jn (fun gk v5 wr => ∃ (j : Nat), Aside (gk + j = Jn) ∧ v5 = .int .i64 (j : Int) ∧ Aside0 (Below w0.heap.size w0 wr))
  case atStart => exact ⟨0, rfl, rfl, ⟨Below.refl _ _⟩⟩
  case round =>
    obtain ⟨j, hk, rfl, hI⟩ := hrel
    have hjm : j ≤ Jn := by have := hk.out; omega
    obtain ⟨y0, y1, y2⟩ := nd_cells (HR.out _ hI.out).1
    obtain ⟨z0, z1, z2⟩ := nd_cells (HR.out _ hI.out).2
    rcases Nat.lt_or_ge j Jn with hlt | hge
    · have d1 : decide ((j : Int) < (Jn : Int)) = true := decide_eq_true (by omega)
      have hjn : (j : Int) < (Jn : Int) := by omega
      obtain ⟨ad, p, e1, hp, c0, c1, c2, c3⟩ := HN.out.1.ri.item HN.out.1.li j hlt
      obtain ⟨q, hq, bk, bv, es, er⟩ := HN.out.1.its.each j p hp
      obtain ⟨⟨pk, pkn, pkc⟩, ⟨pv, pvn, pvc⟩, ps, pr⟩ := p
      obtain ⟨ae, p2, e2, hp2, f0, f1, f2, f3⟩ := HN.out.2.ri.item HN.out.2.li j hlt
      obtain ⟨q2, hq2, bk2, bv2, es2, er2⟩ := HN.out.2.its.each j p2 hp2
      obtain ⟨⟨sk, skn, skc⟩, ⟨sv, svn, svc⟩, ss, sr⟩ := p2
      rw [hq] at hq2
      injection hq2 with hq2
      subst hq2
      obtain ⟨qk, qv, qs, qr⟩ := q
      simp only at e1 e2
      subst e1 e2
      unfold shv at c0 c1 f0 f1
      unfold Bsh at bk bv bk2 bv2
      simp only at c0 c1 c2 c3 bk bv es er f0 f1 f2 f3 bk2 bv2 es2 er2
      subst es er es2 er2
      go_upto_region 6 with fail
      obtain ⟨u0, hu0⟩ : ∃ X, wr.drew = X := ⟨_, rfl⟩
      have HBd := Aside0.mk (show Below w0.heap.size w0 u0 by rw [← hu0]; exact below_drew hI.out)
      have HQ := Aside0.mk (And.intro (bk.below HBd.out) (And.intro (bv.below HBd.out) (And.intro (bk2.below HBd.out) (bv2.below HBd.out))))
      have HS := Aside0.mk (show ∀ X : World, Below w0.heap.size w0 X → X.cell? ⟨N, 1, none⟩ = some (.slice (some ad) Jn Ic) ∧ X.cell? ⟨N1, 1, none⟩ = some (.slice (some ae) Jn Jc) ∧ X.cell? (ad.add (j * 4)) = some (.slice pk pkn pkc) ∧ X.cell? ⟨(ad.add (j * 4)).block, (ad.add (j * 4)).off + 1, none⟩ = some (.slice pv pvn pvc) ∧ X.cell? ⟨(ad.add (j * 4)).block, (ad.add (j * 4)).off + 2, none⟩ = some (.int .i64 ss) ∧ X.cell? ⟨(ad.add (j * 4)).block, (ad.add (j * 4)).off + 3, none⟩ = some (.int .i64 sr) ∧ X.cell? (ae.add (j * 4)) = some (.slice sk skn skc) ∧ X.cell? ⟨(ae.add (j * 4)).block, (ae.add (j * 4)).off + 1, none⟩ = some (.slice sv svn svc) ∧ X.cell? ⟨(ae.add (j * 4)).block, (ae.add (j * 4)).off + 2, none⟩ = some (.int .i64 ss) ∧ X.cell? ⟨(ae.add (j * 4)).block, (ae.add (j * 4)).off + 3, none⟩ = some (.int .i64 sr) from fun X hX => ⟨(nd_cells (HR.out _ hX).1).2.1, (nd_cells (HR.out _ hX).2).2.1, cell_below hX c0, cell_below hX c1, cell_below hX c2, cell_below hX c3, cell_below hX f0, cell_below hX f1, cell_below hX f2, cell_below hX f3⟩)
      clear y0 y1 y2 z0 z1 z2 c0 c1 c2 c3 f0 f1 f2 f3 bk bv bk2 bv2 hp hp2 hq
      refine wp_region_M (fun j => decide (j < 12)) (fun w' => w'.cell? ⟨N, 1, none⟩ = some (.slice (some ad) Jn Ic) ∧ w'.cell? ⟨N1, 1, none⟩ = some (.slice (some ae) Jn Jc) ∧ w'.cell? (ad.add (j * 4)) = some (.slice pk pkn pkc) ∧ w'.cell? ⟨(ad.add (j * 4)).block, (ad.add (j * 4)).off + 1, none⟩ = some (.slice pv pvn pvc) ∧ w'.cell? ⟨(ad.add (j * 4)).block, (ad.add (j * 4)).off + 2, none⟩ = some (.int .i64 ss) ∧ w'.cell? ⟨(ad.add (j * 4)).block, (ad.add (j * 4)).off + 3, none⟩ = some (.int .i64 sr) ∧ w'.cell? (ae.add (j * 4)) = some (.slice sk skn skc) ∧ w'.cell? ⟨(ae.add (j * 4)).block, (ae.add (j * 4)).off + 1, none⟩ = some (.slice sv svn svc) ∧ w'.cell? ⟨(ae.add (j * 4)).block, (ae.add (j * 4)).off + 2, none⟩ = some (.int .i64 ss) ∧ w'.cell? ⟨(ae.add (j * 4)).block, (ae.add (j * 4)).off + 3, none⟩ = some (.int .i64 sr)) (by kernel_rfl) ?_
      rw [hu0]
      clear hu0
      refine wpAnyM_take (i := 0) (v := ?_) (by simp only [List.getElem?_toArray, List.getElem?_cons_succ, List.getElem?_cons_zero]; rfl) (by kernel_rfl) (by kernel_rfl) (by kernel_rfl) (by kernel_rfl) (by exact fun _ _ _ h => h) (Or.inl ⟨by rfl, ?_⟩) (HS.out _ HBd.out) ?_
      rotate_left
      · (intro w' hSw; (try dsimp only at hSw); go_simp; try with_reducible rfl)
      try simp only [Act.put, List.setIfInBounds_toArray, List.set_cons_zero, List.set_cons_succ]
      refine wpAnyM_take (i := 1) (v := ?_) (by simp only [List.getElem?_toArray, List.getElem?_cons_succ, List.getElem?_cons_zero]; rfl) (by kernel_rfl) (by kernel_rfl) (by kernel_rfl) (by kernel_rfl) (by exact fun _ _ _ h => h) (Or.inl ⟨by rfl, ?_⟩) (HS.out _ HBd.out) ?_
      rotate_left
      · (intro w' hSw; (try dsimp only at hSw); go_simp; try with_reducible rfl)
      try simp only [Act.put, List.setIfInBounds_toArray, List.set_cons_zero, List.set_cons_succ]
      refine wpAnyM_take (i := 2) (v := ?_) (by simp only [List.getElem?_toArray, List.getElem?_cons_succ, List.getElem?_cons_zero]; rfl) (by kernel_rfl) (by kernel_rfl) (by kernel_rfl) (by kernel_rfl) (by exact fun _ _ _ h => h) (Or.inl ⟨by rfl, ?_⟩) (HS.out _ HBd.out) ?_
      rotate_left
      · (intro w' hSw; (try dsimp only at hSw); go_simp; try with_reducible rfl)
      try simp only [Act.put, List.setIfInBounds_toArray, List.set_cons_zero, List.set_cons_succ]
      refine wpAnyM_take (i := 3) (v := ?_) (by simp only [List.getElem?_toArray, List.getElem?_cons_succ, List.getElem?_cons_zero]; rfl) (by kernel_rfl) (by kernel_rfl) (by kernel_rfl) (by kernel_rfl) (by exact fun _ _ _ h => h) (Or.inl ⟨by rfl, ?_⟩) (HS.out _ HBd.out) ?_
      rotate_left
      · (intro w' hSw; (try dsimp only at hSw); go_simp; try with_reducible rfl)
      try simp only [Act.put, List.setIfInBounds_toArray, List.set_cons_zero, List.set_cons_succ]
      refine wpAnyM_take (i := 4) (v := ?_) (by simp only [List.getElem?_toArray, List.getElem?_cons_succ, List.getElem?_cons_zero]; rfl) (by kernel_rfl) (by kernel_rfl) (by kernel_rfl) (by kernel_rfl) (by exact fun _ _ _ h => h) (Or.inl ⟨by rfl, ?_⟩) (HS.out _ HBd.out) ?_
      rotate_left
      · (intro w' hSw; (try dsimp only at hSw); go_simp; try with_reducible rfl)
      try simp only [Act.put, List.setIfInBounds_toArray, List.set_cons_zero, List.set_cons_succ]
      refine wpAnyM_take (i := 5) (v := ?_) (by simp only [List.getElem?_toArray, List.getElem?_cons_succ, List.getElem?_cons_zero]; rfl) (by kernel_rfl) (by kernel_rfl) (by kernel_rfl) (by kernel_rfl) (by exact fun _ _ _ h => h) (Or.inl ⟨by rfl, ?_⟩) (HS.out _ HBd.out) ?_
      rotate_left
      · (intro w' hSw; (try dsimp only at hSw); go_simp; try with_reducible rfl)
      try simp only [Act.put, List.setIfInBounds_toArray, List.set_cons_zero, List.set_cons_succ]
      refine wpAnyM_take (i := 6) (v := ?_) (by simp only [List.getElem?_toArray, List.getElem?_cons_succ, List.getElem?_cons_zero]; rfl) (by kernel_rfl) (by kernel_rfl) (by kernel_rfl) (by kernel_rfl) (by exact fun _ _ _ h => h) (Or.inl ⟨by rfl, ?_⟩) (HS.out _ HBd.out) ?_
      rotate_left
      · (intro w' hSw; (try dsimp only at hSw); go_simp; try with_reducible rfl)
      try simp only [Act.put, List.setIfInBounds_toArray, List.set_cons_zero, List.set_cons_succ]
      refine wpAnyM_take (i := 7) (v := ?_) (by simp only [List.getElem?_toArray, List.getElem?_cons_succ, List.getElem?_cons_zero]; rfl) (by kernel_rfl) (by kernel_rfl) (by kernel_rfl) (by kernel_rfl) (by exact fun _ _ _ h => h) (Or.inl ⟨by rfl, ?_⟩) (HS.out _ HBd.out) ?_
      rotate_left
      · (intro w' hSw; (try dsimp only at hSw); go_simp; try with_reducible rfl)
      try simp only [Act.put, List.setIfInBounds_toArray, List.set_cons_zero, List.set_cons_succ]
      refine wpAnyM_take (i := 8) (v := ?_) (by simp only [List.getElem?_toArray, List.getElem?_cons_succ, List.getElem?_cons_zero]; rfl) (by kernel_rfl) (by kernel_rfl) (by kernel_rfl) (by kernel_rfl) (by exact fun _ _ _ h => h) (Or.inl ⟨by rfl, ?_⟩) (HS.out _ HBd.out) ?_
      rotate_left
      · (intro w' hSw; (try dsimp only at hSw); go_simp; try with_reducible rfl)
      try simp only [Act.put, List.setIfInBounds_toArray, List.set_cons_zero, List.set_cons_succ]
      refine wpAnyM_take (i := 9) (v := ?_) (by simp only [List.getElem?_toArray, List.getElem?_cons_succ, List.getElem?_cons_zero]; rfl) (by kernel_rfl) (by kernel_rfl) (by kernel_rfl) (by kernel_rfl) (by exact fun _ _ _ h => h) (Or.inl ⟨by rfl, ?_⟩) (HS.out _ HBd.out) ?_
      rotate_left
      · (intro w' hSw; (try dsimp only at hSw); go_simp; try with_reducible rfl)
      try simp only [Act.put, List.setIfInBounds_toArray, List.set_cons_zero, List.set_cons_succ]
      refine wpAnyM_one (i := 10) (by kernel_rfl) (by simp only [List.getElem?_toArray, List.getElem?_cons_succ, List.getElem?_cons_zero]; rfl) ?_
      go_wp2_with (go_at_call 27; refine (rsame_any pk pkn pkc qk pv pvn pvc qv ss sr sk skn skc qk sv svn svc qv ss sr u0 HQ.out).mono ?_; rintro e u1 ⟨rfl, hB⟩; rw [show sameB qk qv qk qv ss sr ss sr = true from decide_eq_true ⟨rfl, rfl, rfl, rfl⟩]; (have H2 := Aside0.mk (below_then HBd.out HBd.out.size hB)); clear hB)
      refine ⟨HS.out _ H2.out, ?_⟩
      try simp only [Act.put, List.setIfInBounds_toArray, List.set_cons_zero, List.set_cons_succ]
      refine wpAnyM_take (i := 11) (v := ?_) (by simp only [List.getElem?_toArray, List.getElem?_cons_succ, List.getElem?_cons_zero]; rfl) (by kernel_rfl) (by kernel_rfl) (by kernel_rfl) (by kernel_rfl) (by exact fun _ _ _ h => h) (Or.inl ⟨by rfl, ?_⟩) (HS.out _ H2.out) ?_
      rotate_left
      · (intro w' hSw; (try dsimp only at hSw); go_simp; try with_reducible rfl)
      try simp only [Act.put, List.setIfInBounds_toArray, List.set_cons_zero, List.set_cons_succ]
      refine wpAnyM_done (by kernel_rfl) ?_ _
      go_wp2_with fail
      go_roundg (Jn - (j + 1))
      case measure => have := hk.out; omega
      case rel => exact ⟨j + 1, (by show Jn - (j + 1) + (j + 1) = Jn; omega), by go_num, ⟨H2.out⟩⟩
    · obtain rfl : Jn = j := by omega
      have d1 : decide ((Jn : Int) < (Jn : Int)) = false := by simp
      have HJ := Aside0.mk hI.out
      clear hI hk
      go_wp2_with fail
      clear y0 y1 y2 z0 z1 z2
      go_loopg [6] Ln (fun gk v6 wr => ∃ (j : Nat), Aside (gk + j = Ln) ∧ v6 = .int .i64 (j : Int) ∧ Aside0 (Below w0.heap.size w0 wr))
      case atStart => exact ⟨0, rfl, rfl, ⟨HJ.out⟩⟩
      case round =>
        obtain ⟨j, hk, rfl, hI⟩ := hrel
        have hjm : j ≤ Ln := by have := hk.out; omega
        obtain ⟨y0, y1, y2⟩ := nd_cells (HR.out _ hI.out).1
        obtain ⟨z0, z1, z2⟩ := nd_cells (HR.out _ hI.out).2
        rcases Nat.lt_or_ge j Ln with hlt | hge
        · have d2 : decide ((j : Int) < (Ln : Int)) = true := decide_eq_true (by omega)
          have hjn : (j : Int) < (Ln : Int) := by omega
          obtain ⟨ad, p, e1, hp, c0, c1⟩ := HN.out.1.rk.kid HN.out.1.lk j hlt
          obtain ⟨q, hq, bk, er⟩ := HN.out.1.kds.each j p hp
          obtain ⟨⟨pk, pkn, pkc⟩, pr⟩ := p
          obtain ⟨ae, p2, e2, hp2, f0, f1⟩ := HN.out.2.rk.kid HN.out.2.lk j hlt
          obtain ⟨q2, hq2, bk2, er2⟩ := HN.out.2.kds.each j p2 hp2
          obtain ⟨⟨sk, skn, skc⟩, sr⟩ := p2
          rw [hq] at hq2
          injection hq2 with hq2
          subst hq2
          obtain ⟨qk, qr⟩ := q
          simp only at e1 e2
          subst e1 e2
          unfold shv at c0 f0
          unfold Bsh at bk bk2
          simp only at c0 c1 bk er f0 f1 bk2 er2
          subst er er2
          have g4 : (sr != sr) = false := bne_self_eq_false _
          go_upto_region 11 with fail
          obtain ⟨u0, hu0⟩ : ∃ X, wr.drew = X := ⟨_, rfl⟩
          have HBd := Aside0.mk (show Below w0.heap.size w0 u0 by rw [← hu0]; exact below_drew hI.out)
          have HQ := Aside0.mk (And.intro (bk.below HBd.out) (bk2.below HBd.out))
          have HS := Aside0.mk (show ∀ X : World, Below w0.heap.size w0 X → X.cell? ⟨N, 2, none⟩ = some (.slice (some ad) Ln Kc) ∧ X.cell? ⟨N1, 2, none⟩ = some (.slice (some ae) Ln Lc) ∧ X.cell? (ad.add (j * 2)) = some (.slice pk pkn pkc) ∧ X.cell? ⟨(ad.add (j * 2)).block, (ad.add (j * 2)).off + 1, none⟩ = some (.int .i64 sr) ∧ X.cell? (ae.add (j * 2)) = some (.slice sk skn skc) ∧ X.cell? ⟨(ae.add (j * 2)).block, (ae.add (j * 2)).off + 1, none⟩ = some (.int .i64 sr) from fun X hX => ⟨(nd_cells (HR.out _ hX).1).2.2, (nd_cells (HR.out _ hX).2).2.2, cell_below hX c0, cell_below hX c1, cell_below hX f0, cell_below hX f1⟩)
          clear y0 y1 y2 z0 z1 z2 c0 c1 f0 f1 bk bk2 hp hp2 hq
          refine wp_region_M (fun j => decide (j < 29)) (fun w' => w'.cell? ⟨N, 2, none⟩ = some (.slice (some ad) Ln Kc) ∧ w'.cell? ⟨N1, 2, none⟩ = some (.slice (some ae) Ln Lc) ∧ w'.cell? (ad.add (j * 2)) = some (.slice pk pkn pkc) ∧ w'.cell? ⟨(ad.add (j * 2)).block, (ad.add (j * 2)).off + 1, none⟩ = some (.int .i64 sr) ∧ w'.cell? (ae.add (j * 2)) = some (.slice sk skn skc) ∧ w'.cell? ⟨(ae.add (j * 2)).block, (ae.add (j * 2)).off + 1, none⟩ = some (.int .i64 sr)) (by kernel_rfl) ?_
          rw [hu0]
          clear hu0
          refine wpAnyM_take (i := 0) (v := ?_) (by simp only [List.getElem?_toArray, List.getElem?_cons_succ, List.getElem?_cons_zero]; rfl) (by kernel_rfl) (by kernel_rfl) (by kernel_rfl) (by kernel_rfl) (by exact fun _ _ _ h => h) (Or.inl ⟨by rfl, ?_⟩) (HS.out _ HBd.out) ?_
          rotate_left
          · (intro w' hSw; (try dsimp only at hSw); go_simp; try with_reducible rfl)
          try simp only [Act.put, List.setIfInBounds_toArray, List.set_cons_zero, List.set_cons_succ]
          refine wpAnyM_take (i := 1) (v := ?_) (by simp only [List.getElem?_toArray, List.getElem?_cons_succ, List.getElem?_cons_zero]; rfl) (by kernel_rfl) (by kernel_rfl) (by kernel_rfl) (by kernel_rfl) (by exact fun _ _ _ h => h) (Or.inl ⟨by rfl, ?_⟩) (HS.out _ HBd.out) ?_
          rotate_left
          · (intro w' hSw; (try dsimp only at hSw); go_simp; try with_reducible rfl)
          try simp only [Act.put, List.setIfInBounds_toArray, List.set_cons_zero, List.set_cons_succ]
          refine wpAnyM_take (i := 2) (v := ?_) (by simp only [List.getElem?_toArray, List.getElem?_cons_succ, List.getElem?_cons_zero]; rfl) (by kernel_rfl) (by kernel_rfl) (by kernel_rfl) (by kernel_rfl) (by exact fun _ _ _ h => h) (Or.inl ⟨by rfl, ?_⟩) (HS.out _ HBd.out) ?_
          rotate_left
          · (intro w' hSw; (try dsimp only at hSw); go_simp; try with_reducible rfl)
          try simp only [Act.put, List.setIfInBounds_toArray, List.set_cons_zero, List.set_cons_succ]
          refine wpAnyM_take (i := 3) (v := ?_) (by simp only [List.getElem?_toArray, List.getElem?_cons_succ, List.getElem?_cons_zero]; rfl) (by kernel_rfl) (by kernel_rfl) (by kernel_rfl) (by kernel_rfl) (by exact fun _ _ _ h => h) (Or.inl ⟨by rfl, ?_⟩) (HS.out _ HBd.out) ?_
          rotate_left
          · (intro w' hSw; (try dsimp only at hSw); go_simp; try with_reducible rfl)
          try simp only [Act.put, List.setIfInBounds_toArray, List.set_cons_zero, List.set_cons_succ]
          refine wpAnyM_take (i := 4) (v := ?_) (by simp only [List.getElem?_toArray, List.getElem?_cons_succ, List.getElem?_cons_zero]; rfl) (by kernel_rfl) (by kernel_rfl) (by kernel_rfl) (by kernel_rfl) (by exact fun _ _ _ h => h) (Or.inl ⟨by rfl, ?_⟩) (HS.out _ HBd.out) ?_
          rotate_left
          · (intro w' hSw; (try dsimp only at hSw); go_simp; try with_reducible rfl)
          try simp only [Act.put, List.setIfInBounds_toArray, List.set_cons_zero, List.set_cons_succ]
          refine wpAnyM_take (i := 5) (v := ?_) (by simp only [List.getElem?_toArray, List.getElem?_cons_succ, List.getElem?_cons_zero]; rfl) (by kernel_rfl) (by kernel_rfl) (by kernel_rfl) (by kernel_rfl) (by exact fun _ _ _ h => h) (Or.inl ⟨by rfl, ?_⟩) (HS.out _ HBd.out) ?_
          rotate_left
          · (intro w' hSw; (try dsimp only at hSw); go_simp; try with_reducible rfl)
          try simp only [Act.put, List.setIfInBounds_toArray, List.set_cons_zero, List.set_cons_succ]
          refine wpAnyM_take (i := 6) (v := ?_) (by simp only [List.getElem?_toArray, List.getElem?_cons_succ, List.getElem?_cons_zero]; rfl) (by kernel_rfl) (by kernel_rfl) (by kernel_rfl) (by kernel_rfl) (by exact fun _ _ _ h => h) (Or.inl ⟨by rfl, ?_⟩) (HS.out _ HBd.out) ?_
          rotate_left
          · (intro w' hSw; (try dsimp only at hSw); go_simp; try with_reducible rfl)
          try simp only [Act.put, List.setIfInBounds_toArray, List.set_cons_zero, List.set_cons_succ]
          refine wpAnyM_take (i := 7) (v := ?_) (by simp only [List.getElem?_toArray, List.getElem?_cons_succ, List.getElem?_cons_zero]; rfl) (by kernel_rfl) (by kernel_rfl) (by kernel_rfl) (by kernel_rfl) (by exact fun _ _ _ h => h) (Or.inl ⟨by rfl, ?_⟩) (HS.out _ HBd.out) ?_
          rotate_left
          · (intro w' hSw; (try dsimp only at hSw); go_simp; try with_reducible rfl)
          try simp only [Act.put, List.setIfInBounds_toArray, List.set_cons_zero, List.set_cons_succ]
          refine wpAnyM_take (i := 8) (v := ?_) (by simp only [List.getElem?_toArray, List.getElem?_cons_succ, List.getElem?_cons_zero]; rfl) (by kernel_rfl) (by kernel_rfl) (by kernel_rfl) (by kernel_rfl) (by exact fun _ _ _ h => h) (Or.inl ⟨by rfl, ?_⟩) (HS.out _ HBd.out) ?_
          rotate_left
          · (intro w' hSw; (try dsimp only at hSw); go_simp; try with_reducible rfl)
          try simp only [Act.put, List.setIfInBounds_toArray, List.set_cons_zero, List.set_cons_succ]
          refine wpAnyM_take (i := 9) (v := ?_) (by simp only [List.getElem?_toArray, List.getElem?_cons_succ, List.getElem?_cons_zero]; rfl) (by kernel_rfl) (by kernel_rfl) (by kernel_rfl) (by kernel_rfl) (by exact fun _ _ _ h => h) (Or.inl ⟨by rfl, ?_⟩) (HS.out _ HBd.out) ?_
          rotate_left
          · (intro w' hSw; (try dsimp only at hSw); go_simp; try with_reducible rfl)
          try simp only [Act.put, List.setIfInBounds_toArray, List.set_cons_zero, List.set_cons_succ]
          refine wpAnyM_take (i := 10) (v := ?_) (by simp only [List.getElem?_toArray, List.getElem?_cons_succ, List.getElem?_cons_zero]; rfl) (by kernel_rfl) (by kernel_rfl) (by kernel_rfl) (by kernel_rfl) (by exact fun _ _ _ h => h) (Or.inl ⟨by rfl, ?_⟩) (HS.out _ HBd.out) ?_
          rotate_left
          · (intro w' hSw; (try dsimp only at hSw); go_simp; try with_reducible rfl)
          try simp only [Act.put, List.setIfInBounds_toArray, List.set_cons_zero, List.set_cons_succ]
          refine wpAnyM_take (i := 11) (v := ?_) (by simp only [List.getElem?_toArray, List.getElem?_cons_succ, List.getElem?_cons_zero]; rfl) (by kernel_rfl) (by kernel_rfl) (by kernel_rfl) (by kernel_rfl) (by exact fun _ _ _ h => h) (Or.inl ⟨by rfl, ?_⟩) (HS.out _ HBd.out) ?_
          rotate_left
          · (intro w' hSw; (try dsimp only at hSw); go_simp; try with_reducible rfl)
          try simp only [Act.put, List.setIfInBounds_toArray, List.set_cons_zero, List.set_cons_succ]
          refine wpAnyM_take (i := 12) (v := ?_) (by simp only [List.getElem?_toArray, List.getElem?_cons_succ, List.getElem?_cons_zero]; rfl) (by kernel_rfl) (by kernel_rfl) (by kernel_rfl) (by kernel_rfl) (by exact fun _ _ _ h => h) (Or.inl ⟨by rfl, ?_⟩) (HS.out _ HBd.out) ?_
          rotate_left
          · (intro w' hSw; (try dsimp only at hSw); go_simp; try with_reducible rfl)
          try simp only [Act.put, List.setIfInBounds_toArray, List.set_cons_zero, List.set_cons_succ]
          refine wpAnyM_take (i := 13) (v := ?_) (by simp only [List.getElem?_toArray, List.getElem?_cons_succ, List.getElem?_cons_zero]; rfl) (by kernel_rfl) (by kernel_rfl) (by kernel_rfl) (by kernel_rfl) (by exact fun _ _ _ h => h) (Or.inl ⟨by rfl, ?_⟩) (HS.out _ HBd.out) ?_
          rotate_left
          · (intro w' hSw; (try dsimp only at hSw); go_simp; try with_reducible rfl)
          try simp only [Act.put, List.setIfInBounds_toArray, List.set_cons_zero, List.set_cons_succ]
          refine wpAnyM_take (i := 14) (v := ?_) (by simp only [List.getElem?_toArray, List.getElem?_cons_succ, List.getElem?_cons_zero]; rfl) (by kernel_rfl) (by kernel_rfl) (by kernel_rfl) (by kernel_rfl) (by exact fun _ _ _ h => h) (Or.inl ⟨by rfl, ?_⟩) (HS.out _ HBd.out) ?_
          rotate_left
          · (intro w' hSw; (try dsimp only at hSw); go_simp; try with_reducible rfl)
          try simp only [Act.put, List.setIfInBounds_toArray, List.set_cons_zero, List.set_cons_succ]
          refine wpAnyM_take (i := 15) (v := ?_) (by simp only [List.getElem?_toArray, List.getElem?_cons_succ, List.getElem?_cons_zero]; rfl) (by kernel_rfl) (by kernel_rfl) (by kernel_rfl) (by kernel_rfl) (by exact fun _ _ _ h => h) (Or.inl ⟨by rfl, ?_⟩) (HS.out _ HBd.out) ?_
          rotate_left
          · (intro w' hSw; (try dsimp only at hSw); go_simp; try with_reducible rfl)
          try simp only [Act.put, List.setIfInBounds_toArray, List.set_cons_zero, List.set_cons_succ]
          refine wpAnyM_take (i := 16) (v := ?_) (by simp only [List.getElem?_toArray, List.getElem?_cons_succ, List.getElem?_cons_zero]; rfl) (by kernel_rfl) (by kernel_rfl) (by kernel_rfl) (by kernel_rfl) (by exact fun _ _ _ h => h) (Or.inl ⟨by rfl, ?_⟩) (HS.out _ HBd.out) ?_
          rotate_left
          · (intro w' hSw; (try dsimp only at hSw); go_simp; try with_reducible rfl)
          try simp only [Act.put, List.setIfInBounds_toArray, List.set_cons_zero, List.set_cons_succ]
          refine wpAnyM_take (i := 17) (v := ?_) (by simp only [List.getElem?_toArray, List.getElem?_cons_succ, List.getElem?_cons_zero]; rfl) (by kernel_rfl) (by kernel_rfl) (by kernel_rfl) (by kernel_rfl) (by exact fun _ _ _ h => h) (Or.inl ⟨by rfl, ?_⟩) (HS.out _ HBd.out) ?_
          rotate_left
          · (intro w' hSw; (try dsimp only at hSw); go_simp; try with_reducible rfl)
          try simp only [Act.put, List.setIfInBounds_toArray, List.set_cons_zero, List.set_cons_succ]
          refine wpAnyM_take (i := 18) (v := ?_) (by simp only [List.getElem?_toArray, List.getElem?_cons_succ, List.getElem?_cons_zero]; rfl) (by kernel_rfl) (by kernel_rfl) (by kernel_rfl) (by kernel_rfl) (by exact fun _ _ _ h => h) (Or.inl ⟨by rfl, ?_⟩) (HS.out _ HBd.out) ?_
          rotate_left
          · (intro w' hSw; (try dsimp only at hSw); go_simp; try with_reducible rfl)
          try simp only [Act.put, List.setIfInBounds_toArray, List.set_cons_zero, List.set_cons_succ]
          refine wpAnyM_take (i := 19) (v := ?_) (by simp only [List.getElem?_toArray, List.getElem?_cons_succ, List.getElem?_cons_zero]; rfl) (by kernel_rfl) (by kernel_rfl) (by kernel_rfl) (by kernel_rfl) (by exact fun _ _ _ h => h) (Or.inl ⟨by rfl, ?_⟩) (HS.out _ HBd.out) ?_
          rotate_left
          · (intro w' hSw; (try dsimp only at hSw); go_simp; try with_reducible rfl)
          try simp only [Act.put, List.setIfInBounds_toArray, List.set_cons_zero, List.set_cons_succ]
          refine wpAnyM_take (i := 20) (v := ?_) (by simp only [List.getElem?_toArray, List.getElem?_cons_succ, List.getElem?_cons_zero]; rfl) (by kernel_rfl) (by kernel_rfl) (by kernel_rfl) (by kernel_rfl) (by exact fun _ _ _ h => h) (Or.inl ⟨by rfl, ?_⟩) (HS.out _ HBd.out) ?_
          rotate_left
          · (intro w' hSw; (try dsimp only at hSw); go_simp; try with_reducible rfl)
          try simp only [Act.put, List.setIfInBounds_toArray, List.set_cons_zero, List.set_cons_succ]
          refine wpAnyM_take (i := 21) (v := ?_) (by simp only [List.getElem?_toArray, List.getElem?_cons_succ, List.getElem?_cons_zero]; rfl) (by kernel_rfl) (by kernel_rfl) (by kernel_rfl) (by kernel_rfl) (by exact fun _ _ _ h => h) (Or.inl ⟨by rfl, ?_⟩) (HS.out _ HBd.out) ?_
          rotate_left
          · (intro w' hSw; (try dsimp only at hSw); go_simp; try with_reducible rfl)
          try simp only [Act.put, List.setIfInBounds_toArray, List.set_cons_zero, List.set_cons_succ]
          refine wpAnyM_take (i := 22) (v := ?_) (by simp only [List.getElem?_toArray, List.getElem?_cons_succ, List.getElem?_cons_zero]; rfl) (by kernel_rfl) (by kernel_rfl) (by kernel_rfl) (by kernel_rfl) (by exact fun _ _ _ h => h) (Or.inl ⟨by rfl, ?_⟩) (HS.out _ HBd.out) ?_
          rotate_left
          · (intro w' hSw; (try dsimp only at hSw); go_simp; try with_reducible rfl)
          try simp only [Act.put, List.setIfInBounds_toArray, List.set_cons_zero, List.set_cons_succ]
          refine wpAnyM_take (i := 23) (v := ?_) (by simp only [List.getElem?_toArray, List.getElem?_cons_succ, List.getElem?_cons_zero]; rfl) (by kernel_rfl) (by kernel_rfl) (by kernel_rfl) (by kernel_rfl) (by exact fun _ _ _ h => h) (Or.inl ⟨by rfl, ?_⟩) (HS.out _ HBd.out) ?_
          rotate_left
          · (intro w' hSw; (try dsimp only at hSw); go_simp; try with_reducible rfl)
          try simp only [Act.put, List.setIfInBounds_toArray, List.set_cons_zero, List.set_cons_succ]
          refine wpAnyM_take (i := 24) (v := ?_) (by simp only [List.getElem?_toArray, List.getElem?_cons_succ, List.getElem?_cons_zero]; rfl) (by kernel_rfl) (by kernel_rfl) (by kernel_rfl) (by kernel_rfl) (by exact fun _ _ _ h => h) (Or.inl ⟨by rfl, ?_⟩) (HS.out _ HBd.out) ?_
          rotate_left
          · (intro w' hSw; (try dsimp only at hSw); go_simp; try with_reducible rfl)
          try simp only [Act.put, List.setIfInBounds_toArray, List.set_cons_zero, List.set_cons_succ]
          refine wpAnyM_take (i := 25) (v := ?_) (by simp only [List.getElem?_toArray, List.getElem?_cons_succ, List.getElem?_cons_zero]; rfl) (by kernel_rfl) (by kernel_rfl) (by kernel_rfl) (by kernel_rfl) (by exact fun _ _ _ h => h) (Or.inl ⟨by rfl, ?_⟩) (HS.out _ HBd.out) ?_
          rotate_left
          · (intro w' hSw; (try dsimp only at hSw); go_simp; try with_reducible rfl)
          try simp only [Act.put, List.setIfInBounds_toArray, List.set_cons_zero, List.set_cons_succ]
          refine wpAnyM_one (i := 26) (by kernel_rfl) (by simp only [List.getElem?_toArray, List.getElem?_cons_succ, List.getElem?_cons_zero]; rfl) ?_
          go_wp2_with (go_at_call 28; refine (rcompare_any pk pkn pkc qk sk skn skc qk u0 HQ.out.1 HQ.out.2).mono ?_; rintro e u1 ⟨rfl, m3, hm3⟩; rw [(cmp_eq0 qk qk).2 rfl]; (have H2 := Aside0.mk (below_then HBd.out HBd.out.size (below_eq hm3))); clear hm3)
          refine ⟨HS.out _ H2.out, ?_⟩
          try simp only [Act.put, List.setIfInBounds_toArray, List.set_cons_zero, List.set_cons_succ]
          refine wpAnyM_take (i := 27) (v := ?_) (by simp only [List.getElem?_toArray, List.getElem?_cons_succ, List.getElem?_cons_zero]; rfl) (by kernel_rfl) (by kernel_rfl) (by kernel_rfl) (by kernel_rfl) (by exact fun _ _ _ h => h) (Or.inl ⟨by rfl, ?_⟩) (HS.out _ H2.out) ?_
          rotate_left
          · (intro w' hSw; (try dsimp only at hSw); go_simp; try with_reducible rfl)
          try simp only [Act.put, List.setIfInBounds_toArray, List.set_cons_zero, List.set_cons_succ]
          refine wpAnyM_take (i := 28) (v := ?_) (by simp only [List.getElem?_toArray, List.getElem?_cons_succ, List.getElem?_cons_zero]; rfl) (by kernel_rfl) (by kernel_rfl) (by kernel_rfl) (by kernel_rfl) (by exact fun _ _ _ h => h) (Or.inl ⟨by rfl, ?_⟩) (HS.out _ H2.out) ?_
          rotate_left
          · (intro w' hSw; (try dsimp only at hSw); go_simp; try with_reducible rfl)
          try simp only [Act.put, List.setIfInBounds_toArray, List.set_cons_zero, List.set_cons_succ]
          refine wpAnyM_done (by kernel_rfl) ?_ _
          go_wp2_with fail
          go_roundg (Ln - (j + 1))
          case measure => have := hk.out; omega
          case rel => exact ⟨j + 1, (by show Ln - (j + 1) + (j + 1) = Ln; omega), by go_num, ⟨H2.out⟩⟩
        · obtain rfl : Ln = j := by omega
          have d2 : decide ((Ln : Int) < (Ln : Int)) = false := by simp
          go_wp2_with fail
          go_ret
          exact ⟨rfl, below_then HB0.out HB0.out.size hI.out⟩
end Go.Proofs.YtbjfklgmbeaaoaaGreat
