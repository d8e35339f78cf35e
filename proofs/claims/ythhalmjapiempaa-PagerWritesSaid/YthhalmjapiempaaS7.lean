/- The document's disk: Do where it syncs. -/
import Derived.Test.YthhalmjapiempaaS6
set_option linter.unusedVariables false
set_option linter.unusedSimpArgs false
namespace Go.Proofs.Ythhalmjapiempaa
open Go.RowKit

set_option maxHeartbeats 16000000 in
set_option maxRecDepth 100000 in
theorem rsync_any (A : Option Addr) (n c : Nat) (B : Option Addr) (m e : Nat) (hs : List (Int × Option Addr × Nat × Nat)) (d : DV) (w : World) (h : RM w A n c B m e hs d) (ok : d.ok (nD d)) (hn : n ≤ 100000000) (hf : d.fuse ≤ 9223372036854775807) (ho : 0 ≤ d.ops ∧ d.ops ≤ 1000000) :
    Calls Try.prog 22 #[.agg (rv d A n c B m e), .agg #[.int .i64 3, .int .i64 0, .int .i64 0, .slice none 0 0, .slice none 0 0]] w (RDo (syncD d) (syncE d) w) := by
  have hln : d.l.length = n := h.bl.len
  have hnd : n = nD d * 64 := by rw [← hln]; exact ok.len
  obtain ⟨bd, hbd⟩ : ∃ b : Obj, Obj.cells #[.int .i64 d.limit, .slice A n c, .slice B m e, .int .i64 d.ops, .int .i64 d.fuse, .bool d.down] 47 = b := ⟨_, rfl⟩
  obtain ⟨bo, hbo⟩ : ∃ b : Obj, Obj.cells #[.int .i64 3, .int .i64 0, .int .i64 0, .slice none 0 0, .slice none 0 0] 54 = b := ⟨_, rfl⟩
  obtain ⟨h1, h2, h3, h4⟩ := heap3 w bd bo (.cells #[.int .i64 0, .slice none 0 0, .slice none 0 0, .int .i64 0, .int .i64 0, .bool false] 47)
  have H0 := Aside0.mk (And.intro h1 (And.intro h2 (And.intro h3 h4)))
  have HW := Aside0.mk h
  have HOK := Aside0.mk ok
  have HND := Aside0.mk hnd
  have HF := Aside0.mk (And.intro hf ho)
  replace hbd := Aside0.mk hbd
  replace hbo := Aside0.mk hbo
  clear h h1 h2 h3 h4 ok hln hnd hf ho
  show Calls Try.prog 22 #[.agg #[.int .i64 d.limit, .slice A n c, .slice B m e, .int .i64 d.ops, .int .i64 d.fuse, .bool d.down], .agg #[.int .i64 3, .int .i64 0, .int .i64 0, .slice none 0 0, .slice none 0 0]] w _
  go_enter Try.func22, Try.ntmps22
  go_upto_region 1 with fail
  rw [hbd.out, hbo.out]
  obtain ⟨w0, hw0⟩ : ∃ X, ((w.alloc bd).alloc bo).alloc (.cells #[.int .i64 0, .slice none 0 0, .slice none 0 0, .int .i64 0, .int .i64 0, .bool false] 47) = X := ⟨_, rfl⟩
  obtain ⟨N2, hN2⟩ : ∃ X, w.heap.size + 1 + 1 = X := ⟨_, rfl⟩
  obtain ⟨N1, hN1⟩ : ∃ X, w.heap.size + 1 = X := ⟨_, rfl⟩
  obtain ⟨N, hN⟩ : ∃ X, w.heap.size = X := ⟨_, rfl⟩
  rw [hw0, hN2, hN1, hN] at H0
  rw [hw0, hN2, hN1, hN]
  have hN' := Aside0.mk hN
  have hNN := Aside0.mk (show N < N1 ∧ N1 < N2 by omega)
  clear hw0 hN2 hN1 hN
  have hYO := Aside0.mk (show ∀ X : World, X.heap[N1]? = some bo → X.cell? ⟨N1, 0, none⟩ = some (.int .i64 3) ∧ X.cell? ⟨N1, 1, none⟩ = some (.int .i64 0) ∧ X.cell? ⟨N1, 2, none⟩ = some (.int .i64 0) ∧ X.cell? ⟨N1, 3, none⟩ = some (.slice none 0 0) ∧ X.cell? ⟨N1, 4, none⟩ = some (.slice none 0 0) from fun X hX => by rw [← hbo.out] at hX; exact row5_cells8 hX)
  have hr0 := H0.out.1
  rw [← hbd.out] at hr0
  clear hbd hbo
  have HRM := Aside0.mk (show ∀ X : World, Below N w X → RM X A n c B m e hs d from fun X hX => HW.out.below (by rw [hN'.out]; exact hX))
  have HSZ := Aside0.mk (show ∀ X : World, Below N w X → N ≤ X.heap.size from fun X hX => by rw [← hN'.out]; exact hX.size)
  have yf := fun j => Go.Joins.unfrozen_of_block H0.out.2.2.1 j
  have yn := fun j => Go.Joins.unfrozen_of_block hr0 j
  have HR0 := Aside0.mk hr0
  obtain ⟨x0, x1, x2, x3, x4, x5⟩ := row6_cells hr0
  obtain ⟨y0, y1, y2, y3, y4⟩ := hYO.out _ H0.out.2.1
  obtain ⟨z0, z1, z2, z3, z4, z5⟩ := row6_cells H0.out.2.2.1
  clear hr0
  cases hdn : d.down with
  | true =>
    rw [hdn] at x5
    have HDN := Aside0.mk hdn
    clear hdn
    have HD := Aside0.mk (dload (row6_set (.int .i64 d.limit) (.slice A n c) (.slice B m e) (.int .i64 d.ops) (.int .i64 d.fuse) (.bool true) H0.out.2.2.1))
    go_wp2_with fail
    have hD := HD.out
    refine bodyPost_ret (v := .tuple #[.agg #[.int .i64 d.limit, .slice A n c, .slice B m e, .int .i64 d.ops, .int .i64 d.fuse, .bool true], .slice none 0 0, .int .i64 10]) (by simp [results, Try.results22, asAddr, hD]) rfl ?_
    have hB := below_only H0.out.2.2.2 (only_set6 (W := w0) (g := N2) (.int .i64 d.limit) (.slice A n c) (.slice B m e) (.int .i64 d.ops) (.int .i64 d.fuse) (.bool true)) (by have := hNN.out; omega) (HSZ.out _ H0.out.2.2.2)
    rw [show syncD d = d from if_pos HDN.out, show syncE d = 10 from if_pos HDN.out]
    exact ⟨A, n, c, B, m, e, hs, by unfold rv; rw [HDN.out], HRM.out _ hB, by rw [hN'.out]; exact hB⟩
  | false =>
    rw [hdn] at x5
    have HDN := Aside0.mk hdn
    obtain ⟨op1, hop1⟩ : ∃ x, (opD d).ops = x := ⟨_, rfl⟩
    obtain ⟨fu1, hfu1⟩ : ∃ x, (opD d).fuse = x := ⟨_, rfl⟩
    obtain ⟨dn1, hdn1⟩ : ∃ x, (opD d).down = x := ⟨_, rfl⟩
    have HV := Aside0.mk (And.intro hop1 (And.intro hfu1 hdn1))
    have cC := rcount_any A n c B m e d w0 hdn ⟨HOK.out.fuse, HF.out.1⟩ HF.out.2
    rw [hop1, hfu1, hdn1] at cC
    clear hdn hop1 hfu1 hdn1
    go_upto_region 31 with fail
    go_upto_region 32 with (go_at_call 56; refine cC.mono ?_; rintro e1 w1 ⟨rfl, hB⟩; (have H1 := Aside0.mk (And.intro ((hB.block _ (Array.getElem?_eq_some_iff.1 HR0.out).1).trans HR0.out) (And.intro ((hB.block _ (Array.getElem?_eq_some_iff.1 H0.out.2.2.1).1).trans H0.out.2.2.1) (below_then H0.out.2.2.2 (HSZ.out _ H0.out.2.2.2) hB)))); clear hB x0 x1 x2 x3 x4 x5 y0 y1 y2 y3 y4 z0 z1 z2 z3 z4 z5 yf yn; (have yn := fun j => Go.Joins.unfrozen_of_block H1.out.1 j); (obtain ⟨x0, x1, x2, x3, x4, x5⟩ := row6_cells H1.out.1))
    have hO2 := only_set6 (W := w1) (g := N) (.int .i64 d.limit) (.slice A n c) (.slice B m e) (.int .i64 op1) (.int .i64 fu1) (.bool dn1)
    have hr2 := row6_set (.int .i64 d.limit) (.slice A n c) (.slice B m e) (.int .i64 op1) (.int .i64 fu1) (.bool dn1) H1.out.1
    have hz2 := (hO2.block _ (Array.getElem?_eq_some_iff.1 H1.out.2.1).1 (by have := hNN.out; omega)).trans H1.out.2.1
    have hB2 := below_only H1.out.2.2 hO2 (Nat.le_refl _) (HSZ.out _ H1.out.2.2)
    have H2 := Aside0.mk (And.intro hr2 (And.intro hz2 hB2))
    obtain ⟨w2, hw2⟩ : ∃ X, ((((((w1.setCell ⟨N, 0, none⟩ (.int .i64 d.limit)).setCell ⟨N, 1, none⟩ (.slice A n c)).setCell ⟨N, 2, none⟩ (.slice B m e)).setCell ⟨N, 3, none⟩ (.int .i64 op1)).setCell ⟨N, 4, none⟩ (.int .i64 fu1)).setCell ⟨N, 5, none⟩ (.bool dn1)) = X := ⟨_, rfl⟩
    rw [hw2] at H2 ⊢
    clear hw2 hO2 hr2 hz2 hB2 x0 x1 x2 x3 x4 x5 yn
    cases dn1 with
    | true =>
      obtain ⟨x0, x1, x2, x3, x4, x5⟩ := row6_cells H2.out.1
      obtain ⟨z0, z1, z2, z3, z4, z5⟩ := row6_cells H2.out.2.1
      have yf := fun j => Go.Joins.unfrozen_of_block H2.out.2.1 j
      have HD := Aside0.mk (dload (row6_set (.int .i64 d.limit) (.slice A n c) (.slice B m e) (.int .i64 op1) (.int .i64 fu1) (.bool true) H2.out.2.1))
      go_wp2_with fail
      have hD := HD.out
      refine bodyPost_ret (v := .tuple #[.agg #[.int .i64 d.limit, .slice A n c, .slice B m e, .int .i64 op1, .int .i64 fu1, .bool true], .slice none 0 0, .int .i64 10]) (by simp [results, Try.results22, asAddr, hD]) rfl ?_
      have hB := below_only H2.out.2.2 (only_set6 (W := w2) (g := N2) (.int .i64 d.limit) (.slice A n c) (.slice B m e) (.int .i64 op1) (.int .i64 fu1) (.bool true)) (by have := hNN.out; omega) (HSZ.out _ H2.out.2.2)
      have hz : d.fuse = 0 := by have h := HV.out.2.2; exact beq_iff_eq.1 h
      have e1 : syncD d = opD d := by unfold syncD; rw [if_neg (by rw [HDN.out]; decide), if_pos hz]
      have e2 : syncE d = 10 := by unfold syncE; rw [if_neg (by rw [HDN.out]; decide), if_pos hz]
      rw [e1, e2]
      exact ⟨A, n, c, B, m, e, hs, by unfold rv; rw [HV.out.1, HV.out.2.1, HV.out.2.2]; rfl, (HRM.out _ hB).turn rfl rfl, by rw [hN'.out]; exact hB⟩
    | false =>
      obtain ⟨x0, x1, x2, x3, x4, x5⟩ := row6_cells H2.out.1
      have cI := rimage_any A n c B m e hs (opD d) w2 ((HRM.out _ H2.out.2.2).turn rfl rfl) (opd_ok HOK.out) hn
      have hrv : rv (opD d) A n c B m e = #[.int .i64 d.limit, .slice A n c, .slice B m e, .int .i64 op1, .int .i64 fu1, .bool false] := by unfold rv; rw [HV.out.1, HV.out.2.1, HV.out.2.2]; rfl
      rw [hrv] at cI
      clear hrv
      go_upto_region 34 with fail
      go_upto_region 35 with (go_at_call 54; refine cI.mono ?_; rintro e1 w3 ⟨A3, c3, rfl, hO, hB⟩; (have H3 := Aside0.mk (And.intro ((hB.block _ (Array.getElem?_eq_some_iff.1 H2.out.1).1).trans H2.out.1) (And.intro ((hB.block _ (Array.getElem?_eq_some_iff.1 H2.out.2.1).1).trans H2.out.2.1) (And.intro (below_then H2.out.2.2 (HSZ.out _ H2.out.2.2) hB) (And.intro hO.bs (fun (h0 : 0 < n) b (e2 : A3 = some b) => show w2.heap.size ≤ b.block by (obtain ⟨q, e3, hq, _⟩ := hO.head h0); rw [e3] at e2; injection e2 with e2; rw [← e2]; exact hq)))))); clear hO hB x0 x1 x2 x3 x4 x5; (have yn := fun j => Go.Joins.unfrozen_of_block H3.out.1 j); (obtain ⟨x0, x1, x2, x3, x4, x5⟩ := row6_cells H3.out.1))
      have hO4 := (OnlyB.refl N w3).set 1 (.slice A3 n c3)
      have hr4 := heap_setCell_same w3 N 1 _ _ (.slice A3 n c3) H3.out.1
      have hz4 := (hO4.block _ (Array.getElem?_eq_some_iff.1 H3.out.2.1).1 (by have := hNN.out; omega)).trans H3.out.2.1
      have H4 := Aside0.mk (And.intro hr4 (And.intro hz4 hO4))
      obtain ⟨w4, hw4⟩ : ∃ X, w3.setCell ⟨N, 1, none⟩ (.slice A3 n c3) = X := ⟨_, rfl⟩
      rw [hw4] at H4 ⊢
      clear hw4 hO4 hr4 hz4 yn x0 x1 x2 x3 x4 x5
      have yn := fun j => Go.Joins.unfrozen_of_block H4.out.1 j
      obtain ⟨x0, x1, x2, x3, x4, x5⟩ := row6_cells H4.out.1
      go_upto_region 36 with fail
      have hO5 := H4.out.2.2.set 2 (.slice none 0 0)
      have hr5 := heap_setCell_same w4 N 2 _ _ (.slice none 0 0) H4.out.1
      have hz5 := (((OnlyB.refl N w4).set 2 (.slice none 0 0)).block _ (Array.getElem?_eq_some_iff.1 H4.out.2.1).1 (by have := hNN.out; omega)).trans H4.out.2.1
      have H5 := Aside0.mk (And.intro hr5 (And.intro hz5 hO5))
      obtain ⟨w5, hw5⟩ : ∃ X, w4.setCell ⟨N, 2, none⟩ (.slice none 0 0) = X := ⟨_, rfl⟩
      rw [hw5] at H5 ⊢
      clear hw5 hO5 hr5 hz5 yn x0 x1 x2 x3 x4 x5
      obtain ⟨x0, x1, x2, x3, x4, x5⟩ := row6_cells H5.out.1
      obtain ⟨z0, z1, z2, z3, z4, z5⟩ := row6_cells H5.out.2.1
      have yf := fun j => Go.Joins.unfrozen_of_block H5.out.2.1 j
      have HD := Aside0.mk (dload (row6_set (.int .i64 d.limit) (.slice A3 n c3) (.slice none 0 0) (.int .i64 op1) (.int .i64 fu1) (.bool false) H5.out.2.1))
      go_wp2_with fail
      have hD := HD.out
      refine bodyPost_ret (v := .tuple #[.agg #[.int .i64 d.limit, .slice A3 n c3, .slice none 0 0, .int .i64 op1, .int .i64 fu1, .bool false], .slice none 0 0, .int .i64 0]) (by simp [results, Try.results22, asAddr, hD]) rfl ?_
      have hB5 := below_only H3.out.2.2.1 H5.out.2.2 (Nat.le_refl _) (HSZ.out _ H3.out.2.2.1)
      have hB := below_only hB5 (only_set6 (W := w5) (g := N2) (.int .i64 d.limit) (.slice A3 n c3) (.slice none 0 0) (.int .i64 op1) (.int .i64 fu1) (.bool false)) (by have := hNN.out; omega) (HSZ.out _ hB5)
      have hz : ¬ (d.fuse = 0) := by have h := HV.out.2.2; exact beq_eq_false_iff_ne.1 h
      have e1 : syncD d = { opD d with l := seenL d.l d.row, row := [] } := by unfold syncD; rw [if_neg (by rw [HDN.out]; decide), if_neg hz]
      have e2 : syncE d = 0 := by unfold syncE; rw [if_neg (by rw [HDN.out]; decide), if_neg hz]
      rw [e1, e2]
      have h9 : N2 < w2.heap.size := (Array.getElem?_eq_some_iff.1 H2.out.2.1).1
      refine ⟨A3, n, c3, none, 0, 0, [], ?_, ⟨?_, Rc.nil6 _, rfl, rfl, fun j p h => by cases h⟩, by rw [hN'.out]; exact hB⟩
      · show _ = Ending.returned (.tuple #[.agg #[.int .i64 d.limit, .slice A3 n c3, .slice none 0 0, .int .i64 (opD d).ops, .int .i64 (opD d).fuse, .bool (opD d).down], .slice none 0 0, .int .i64 0])
        rw [HV.out.1, HV.out.2.1, HV.out.2.2]
      · refine (H3.out.2.2.2.1.only6 H5.out.2.2 (fun h0 a ea => ?_)).only6 (only_set6 _ _ _ _ _ _) (fun h0 a ea => ?_)
        · have := H3.out.2.2.2.2 h0 a ea; have := hNN.out; omega
        · have := H3.out.2.2.2.2 h0 a ea; omega
end Go.Proofs.Ythhalmjapiempaa
