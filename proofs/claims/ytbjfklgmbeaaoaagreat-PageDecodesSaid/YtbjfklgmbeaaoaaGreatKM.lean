/- The walks of law06's Of and Old: a node, as the program, and as the document, has it. -/
import Derived.Test.YtbjfklgmbeaaoaaGreatKK
import Derived.Test.YtbjfklgmbeaaoaaGreatV2
set_option linter.unusedVariables false
set_option linter.unusedSimpArgs false
namespace Go.Proofs.YtbjfklgmbeaaoaaGreat
open Go.RowKit

/-- A node that is copied: its own box, the result's, the copy's, and the copy's slices. -/
structure OfS (w : World) (TN TI TK : TypeId) (N T2 T3 : Nat) (oN oT : Obj) (lf : Bool) (I K : SH) (is : List IH) (ks : List KH) (W : World) : Prop where
  rn : W.heap[N]? = some oN
  rt : W.heap[T2]? = some oT
  ro : W.heap[T3]? = some (.cells #[.bool lf, .slice I.1 I.2.1 I.2.2, .slice K.1 K.2.1 K.2.2] TN)
  bel : Below w.heap.size w W
  lo : w.heap.size ≤ N ∧ N < T2 ∧ T2 < T3
  oi : Oc W w.heap.size TI 4 I.1 I.2.1 I.2.2 (ihv is)
  ok : Oc W w.heap.size TK 2 K.1 K.2.1 K.2.2 (khv ks)
  ni : ∀ k, I.1 = some ⟨k, 0, none⟩ → k ≠ N ∧ k ≠ T2 ∧ k ≠ T3
  nk : ∀ k, K.1 = some ⟨k, 0, none⟩ → k ≠ N ∧ k ≠ T2 ∧ k ≠ T3
  ik : ∀ k j, I.1 = some ⟨k, 0, none⟩ → K.1 = some ⟨j, 0, none⟩ → k ≠ j
section
variable {w : World} {TN TI TK : TypeId} {N T2 T3 : Nat} {oN oT : Obj} {lf : Bool} {I K : SH} {is : List IH} {ks : List KH} {W : World}
theorem OfS.step {W1 : World} (k : OfS w TN TI TK N T2 T3 oN oT lf I K is ks W) (hB : Below W.heap.size W W1) : OfS w TN TI TK N T2 T3 oN oT lf I K is ks W1 :=
  ⟨(hB.block _ (Array.getElem?_eq_some_iff.1 k.rn).1).trans k.rn, (hB.block _ (Array.getElem?_eq_some_iff.1 k.rt).1).trans k.rt, (hB.block _ (Array.getElem?_eq_some_iff.1 k.ro).1).trans k.ro, below_then k.bel k.bel.size hB, k.lo, k.oi.below hB, k.ok.below hB, k.ni, k.nk, k.ik⟩
theorem OfS.lt (k : OfS w TN TI TK N T2 T3 oN oT lf I K is ks W) : N < W.heap.size ∧ T2 < W.heap.size ∧ T3 < W.heap.size :=
  ⟨(Array.getElem?_eq_some_iff.1 k.rn).1, (Array.getElem?_eq_some_iff.1 k.rt).1, (Array.getElem?_eq_some_iff.1 k.ro).1⟩
theorem OfS.addI {w1 : World} {A2 : Option Addr} {c2 : Nat} {p : IH} (k : OfS w TN TI TK N T2 T3 oN oT lf I K is ks W) (hO : Oc w1 w.heap.size TI 4 A2 (I.2.1 + 1) c2 (ihv is ++ ih4 p)) (hG : Grw I.1 W w1) (hA : A2 = I.1 ∨ A2 = some ⟨W.heap.size, 0, none⟩) :
    OfS w TN TI TK N T2 T3 oN oT lf (A2, I.2.1 + 1, c2) K (is ++ [p]) ks (w1.setCell ⟨T3, 1, none⟩ (.slice A2 (I.2.1 + 1) c2)) := by
  have ho := (OnlyB.refl T3 w1).set 1 (.slice A2 (I.2.1 + 1) c2)
  have hlt := k.lt
  have hsz := hG.size
  have row : ∀ i o, W.heap[i]? = some o → i ≠ T3 → (∀ q, I.1 = some ⟨q, 0, none⟩ → q ≠ i) → (w1.setCell ⟨T3, 1, none⟩ (.slice A2 (I.2.1 + 1) c2)).heap[i]? = some o := fun i o h h1 h2 =>
    ((ho.block i (by have := (Array.getElem?_eq_some_iff.1 h).1; omega) h1).trans (hG.block i (Array.getElem?_eq_some_iff.1 h).1 (fun e => h2 _ e rfl))).trans h
  have hbel : Below w.heap.size w w1 := ⟨hG.os.trans k.bel.os, hG.tape.trans k.bel.tape, hG.output.trans k.bel.output, Nat.le_trans k.bel.size hG.size, fun i hi => (hG.block i (Nat.lt_of_lt_of_le hi k.bel.size) (fun e => by have := k.oi.lo _ e; omega)).trans (k.bel.block i hi)⟩
  have hA' : ∀ q, A2 = some ⟨q, 0, none⟩ → q ≠ N ∧ q ≠ T2 ∧ q ≠ T3 := fun q e => by
    rcases hA with rfl | rfl
    · exact k.ni q e
    · injection e with e; injection e with e; omega
  refine ⟨row N _ k.rn (by have := k.lo; omega) (fun q e => (k.ni q e).1), row T2 _ k.rt (by have := k.lo; omega) (fun q e => (k.ni q e).2.1), ?_, ho.below hbel (by have := k.lo; omega) (Nat.le_refl _), k.lo, ?_, ?_, hA', k.nk, ?_⟩
  · exact heap_setCell_same w1 T3 1 _ _ _ ((hG.block T3 hlt.2.2 (fun e => (k.ni _ e).2.2 rfl)).trans k.ro)
  · rw [ihv_app]
    exact Oc.only (by simpa [ihv] using hO) ho (fun q e => (hA' q e).2.2)
  · exact (k.ok.kept (fun i e hi => hG.block i hi (fun e2 => k.ik i i e2 e rfl))).only ho (fun q e => (k.nk q e).2.2)
  · intro i j e1 e2
    rcases hA with rfl | rfl
    · exact k.ik i j e1 e2
    · have := k.ok.lt j e2
      injection e1 with e1; injection e1 with e1; omega
theorem OfS.addK {w1 : World} {A2 : Option Addr} {c2 : Nat} {p : KH} (k : OfS w TN TI TK N T2 T3 oN oT lf I K is ks W) (hO : Oc w1 w.heap.size TK 2 A2 (K.2.1 + 1) c2 (khv ks ++ kh2 p)) (hG : Grw K.1 W w1) (hA : A2 = K.1 ∨ A2 = some ⟨W.heap.size, 0, none⟩) :
    OfS w TN TI TK N T2 T3 oN oT lf I (A2, K.2.1 + 1, c2) is (ks ++ [p]) (w1.setCell ⟨T3, 2, none⟩ (.slice A2 (K.2.1 + 1) c2)) := by
  have ho := (OnlyB.refl T3 w1).set 2 (.slice A2 (K.2.1 + 1) c2)
  have hlt := k.lt
  have hsz := hG.size
  have row : ∀ i o, W.heap[i]? = some o → i ≠ T3 → (∀ q, K.1 = some ⟨q, 0, none⟩ → q ≠ i) → (w1.setCell ⟨T3, 2, none⟩ (.slice A2 (K.2.1 + 1) c2)).heap[i]? = some o := fun i o h h1 h2 =>
    ((ho.block i (by have := (Array.getElem?_eq_some_iff.1 h).1; omega) h1).trans (hG.block i (Array.getElem?_eq_some_iff.1 h).1 (fun e => h2 _ e rfl))).trans h
  have hbel : Below w.heap.size w w1 := ⟨hG.os.trans k.bel.os, hG.tape.trans k.bel.tape, hG.output.trans k.bel.output, Nat.le_trans k.bel.size hG.size, fun i hi => (hG.block i (Nat.lt_of_lt_of_le hi k.bel.size) (fun e => by have := k.ok.lo _ e; omega)).trans (k.bel.block i hi)⟩
  have hA' : ∀ q, A2 = some ⟨q, 0, none⟩ → q ≠ N ∧ q ≠ T2 ∧ q ≠ T3 := fun q e => by
    rcases hA with rfl | rfl
    · exact k.nk q e
    · injection e with e; injection e with e; omega
  refine ⟨row N _ k.rn (by have := k.lo; omega) (fun q e => (k.nk q e).1), row T2 _ k.rt (by have := k.lo; omega) (fun q e => (k.nk q e).2.1), ?_, ho.below hbel (by have := k.lo; omega) (Nat.le_refl _), k.lo, ?_, ?_, k.ni, hA', ?_⟩
  · exact heap_setCell_same w1 T3 2 _ _ _ ((hG.block T3 hlt.2.2 (fun e => (k.nk _ e).2.2 rfl)).trans k.ro)
  · exact (k.oi.kept (fun i e hi => hG.block i hi (fun e2 => k.ik i i e e2 rfl))).only ho (fun q e => (k.ni q e).2.2)
  · rw [khv_app]
    exact Oc.only (by simpa [khv] using hO) ho (fun q e => (hA' q e).2.2)
  · intro i j e1 e2
    rcases hA with rfl | rfl
    · exact k.ik i j e1 e2
    · have := k.oi.lt i e1
      injection e2 with e2; injection e2 with e2; omega
end
theorem rnload {W : World} {g : Nat} {a b c : Value} (h : W.heap[g]? = some (.cells #[a, b, c] 35)) : (loadVar 35 ⟨g, 0, none⟩).run Tryz.prog W = .ok (.agg #[a, b, c]) W :=
  run_loadVar_row W g 35 35 _ (0, 0) _ h Tryz.underlying35 rfl (by kernel_rfl)
theorem infoRIt : (Tryz.prog.info? 70).map (fun i => (i.zero, i.size, i.bytes)) = some (some (.agg #[.slice none 0 0, .slice none 0 0, .int .i64 0, .int .i64 0]), 4, 64) := by kernel_rfl
theorem infoRKd : (Tryz.prog.info? 72).map (fun i => (i.zero, i.size, i.bytes)) = some (some (.agg #[.slice none 0 0, .int .i64 0]), 2, 32) := by kernel_rfl
set_option maxHeartbeats 4000000 in
set_option maxRecDepth 100000 in
theorem lold_any (h : NH) (is : List IH) (ks : List KH) (v : NV) (w : World) (hn : Nd w h is ks v) :
    Calls Tryz.prog 9 #[.agg (nhv h)] w fun e w' => ∃ h' is' ks', e = .returned (.agg (nhv h')) ∧ Nd w' h' is' ks' v ∧ Below w.heap.size w w' := by
  obtain ⟨lf, ⟨IA, In, Ic⟩, ⟨KA, Kn, Kc⟩⟩ := h
  have hbi : In ≤ 1000 := hn.bi
  have hbk : Kn ≤ 1000 := hn.bk
  have hll : is.length = In ∧ ks.length = Kn := ⟨hn.li, hn.lk⟩
  have HLL := Aside0.mk hll
  have HNd := Aside0.mk hn
  have HT := Aside0.mk (show ∀ X : World, Below w.heap.size w X → Nd X ⟨lf, (IA, In, Ic), (KA, Kn, Kc)⟩ is ks v from fun X hX => HNd.out.below hX)
  clear hn hll
  show Calls Tryz.prog 9 #[.agg #[.bool lf, .slice IA In Ic, .slice KA Kn Kc]] w _
  go_enter Tryz.func9, Tryz.ntmps9
  go_upto_region 2 with fail
  have hA : OfS w 35 70 72 w.heap.size (w.heap.size + 1) (w.heap.size + 1 + 1) (.cells #[.bool lf, .slice IA In Ic, .slice KA Kn Kc] 28) (.cells #[.bool false, .slice none 0 0, .slice none 0 0] 35) lf (none, 0, 0) (none, 0, 0) [] [] (((w.alloc (.cells #[.bool lf, .slice IA In Ic, .slice KA Kn Kc] 28)).alloc (.cells #[.bool false, .slice none 0 0, .slice none 0 0] 35)).alloc (.cells #[.bool lf, .slice none 0 0, .slice none 0 0] 35)) := by
    have s1 : (w.alloc (.cells #[.bool lf, .slice IA In Ic, .slice KA Kn Kc] 28)).heap.size = w.heap.size + 1 := by simp
    have s2 : ((w.alloc (.cells #[.bool lf, .slice IA In Ic, .slice KA Kn Kc] 28)).alloc (.cells #[.bool false, .slice none 0 0, .slice none 0 0] 35)).heap.size = w.heap.size + 1 + 1 := by simp
    have b2 := (Below.refl _ (w.alloc (.cells #[.bool lf, .slice IA In Ic, .slice KA Kn Kc] 28))).alloc (Nat.le_refl _) (.cells #[.bool false, .slice none 0 0, .slice none 0 0] 35)
    have b3 := (Below.refl _ ((w.alloc (.cells #[.bool lf, .slice IA In Ic, .slice KA Kn Kc] 28)).alloc (.cells #[.bool false, .slice none 0 0, .slice none 0 0] 35))).alloc (Nat.le_refl _) (.cells #[.bool lf, .slice none 0 0, .slice none 0 0] 35)
    have r1 := heap_alloc_new w (.cells #[.bool lf, .slice IA In Ic, .slice KA Kn Kc] 28)
    have r2 := heap_alloc_new (w.alloc (.cells #[.bool lf, .slice IA In Ic, .slice KA Kn Kc] 28)) (.cells #[.bool false, .slice none 0 0, .slice none 0 0] 35)
    have r3 := heap_alloc_new ((w.alloc (.cells #[.bool lf, .slice IA In Ic, .slice KA Kn Kc] 28)).alloc (.cells #[.bool false, .slice none 0 0, .slice none 0 0] 35)) (.cells #[.bool lf, .slice none 0 0, .slice none 0 0] 35)
    rw [s1] at r2
    rw [s2] at r3
    have r1' := (b2.block _ (by omega)).trans r1
    exact ⟨(b3.block _ (by omega)).trans r1', (b3.block _ (by omega)).trans r2, r3, below_then (below_two w _ _) (by omega) b3, ⟨Nat.le_refl _, by omega, by omega⟩, Oc.nil _ _ _ _, Oc.nil _ _ _ _, fun k e => (by cases e), fun k e => (by cases e), fun k j e => (by cases e)⟩
  obtain ⟨w0, hw0⟩ : ∃ X, ((w.alloc (.cells #[.bool lf, .slice IA In Ic, .slice KA Kn Kc] 28)).alloc (.cells #[.bool false, .slice none 0 0, .slice none 0 0] 35)).alloc (.cells #[.bool lf, .slice none 0 0, .slice none 0 0] 35) = X := ⟨_, rfl⟩
  obtain ⟨T3, hT3⟩ : ∃ X, w.heap.size + 1 + 1 = X := ⟨_, rfl⟩
  obtain ⟨T2, hT2⟩ : ∃ X, w.heap.size + 1 = X := ⟨_, rfl⟩
  rw [hw0, hT3, hT2] at hA
  rw [hw0]
  try rw [hT3]
  try rw [hT2]
  obtain ⟨N, hN⟩ : ∃ X, w.heap.size = X := ⟨_, rfl⟩
  have H0 := Aside0.mk (show OfS w 35 70 72 N T2 T3 (.cells #[.bool lf, .slice IA In Ic, .slice KA Kn Kc] 28) (.cells #[.bool false, .slice none 0 0, .slice none 0 0] 35) lf (none, 0, 0) (none, 0, 0) [] [] w0 from by rw [← hN]; exact hA)
  rw [hN]
  clear hw0 hT3 hT2 hN hA
  obtain ⟨y0, y1, y2⟩ := nd_cells H0.out.rn
  go_wp2_with fail
  clear y0 y1 y2
  go_loopg [14] In (fun gk v14 wr => ∃ (j : Nat) (AA : Option Addr) (cc : Nat), Aside (gk + j = In) ∧ v14 = .int .i64 (j : Int) ∧ Aside0 (OfS w 35 70 72 N T2 T3 (.cells #[.bool lf, .slice IA In Ic, .slice KA Kn Kc] 28) (.cells #[.bool false, .slice none 0 0, .slice none 0 0] 35) lf (AA, j, cc) (none, 0, 0) (is.take j) [] wr))
  case atStart => exact ⟨0, none, 0, rfl, rfl, ⟨H0.out⟩⟩
  case round =>
    obtain ⟨j, AA, cc, hk, rfl, hI⟩ := hrel
    have hjm : j ≤ In := by have := hk.out; omega
    rcases Nat.lt_or_ge j In with hlt | hge
    · have d1 : decide ((j : Int) < (In : Int)) = true := decide_eq_true (by omega)
      have hjn : (j : Int) < (In : Int) := by omega
      obtain ⟨ad, p, e0, hp, c0, c1, c2, c3⟩ := (HT.out _ hI.out.bel).ri.item (HT.out _ hI.out.bel).li j hlt
      simp only at e0
      subst e0
      obtain ⟨⟨pk, pkn, pkc⟩, ⟨pv, pvn, pvc⟩, ps, pr⟩ := p
      unfold shv at c0 c1
      simp only at c0 c1 c2 c3
      have HP := Aside0.mk hp
      clear hp
      go_upto_region 5 with fail
      have h5 := hI.out.step ((Below.refl _ wr).alloc (Nat.le_refl _) (.cells #[.slice pk pkn pkc, .slice pv pvn pvc, .int .i64 ps, .int .i64 pr] 44))
      have H5 := Aside0.mk (And.intro h5 (heap_alloc_new wr (.cells #[.slice pk pkn pkc, .slice pv pvn pvc, .int .i64 ps, .int .i64 pr] 44)))
      obtain ⟨w5, hw5⟩ : ∃ X, wr.alloc (.cells #[.slice pk pkn pkc, .slice pv pvn pvc, .int .i64 ps, .int .i64 pr] 44) = X := ⟨_, rfl⟩
      obtain ⟨M, hM⟩ : ∃ X, wr.heap.size = X := ⟨_, rfl⟩
      rw [hw5, hM] at H5
      rw [hw5, hM]
      obtain ⟨z0, z1, z2, z3⟩ := item_cells2 H5.out.2
      clear hw5 hM h5
      clear c0 c1 c2 c3
      obtain ⟨x0, x1, x2⟩ := nd_cells H5.out.1.ro
      have h6 := H5.out.1.step ((Below.refl _ w5).alloc (Nat.le_refl _) (.cells #[.slice pk pkn pkc, .slice pv pvn pvc, .int .i64 ps, .int .i64 pr] 70))
      have hl6 : (w5.alloc (.cells #[.slice pk pkn pkc, .slice pv pvn pvc, .int .i64 ps, .int .i64 pr] 70)).rangeAt w5.heap.size 0 (ih4 ⟨(pk, pkn, pkc), (pv, pvn, pvc), ps, pr⟩) := lit_range w5 #[.slice pk pkn pkc, .slice pv pvn pvc, .int .i64 ps, .int .i64 pr] 70 [.slice pk pkn pkc, .slice pv pvn pvc, .int .i64 ps, .int .i64 pr] rfl
      have yN := fun j => Go.Joins.unfrozen_of_block h6.ro j
      have H6 := Aside0.mk (And.intro h6 hl6)
      clear h6 hl6
      go_wp2_with (at_builtin; refine wpl_oc w.heap.size (by rfl) _ _ 32 70 (.agg #[.slice none 0 0, .slice none 0 0, .int .i64 0, .int .i64 0]) 4 64 (by rfl) Tryz.underlying32 infoRIt rfl (by omega) (by omega) (by omega) AA j cc _ (ihv (is.take j)) (ih4 ⟨(pk, pkn, pkc), (pv, pvn, pvc), ps, pr⟩) (by rfl) (by rfl) H6.out.1.oi rfl H6.out.2 (fun u hu => (ihv_one [⟨(pk, pkn, pkc), (pv, pvn, pvc), ps, pr⟩]) u (by simpa [ihv] using hu)) H6.out.1.bel.size (by omega) ?_; intro A2 c2 w7 hO hG hA; (have HF := Aside0.mk (H6.out.1.addI (p := ⟨(pk, pkn, pkc), (pv, pvn, pvc), ps, pr⟩) hO.out hG.out hA.out)); (have hb7 := (hG.out.block _ (Array.getElem?_eq_some_iff.1 H6.out.1.ro).1 (fun e => (H6.out.1.ni _ e).2.2 rfl)).trans H6.out.1.ro); clear yN x0 x1 x2; (obtain ⟨x0, x1, x2⟩ := nd_cells hb7); (have yN := fun j => Go.Joins.unfrozen_of_block hb7 j); clear hO hG hA hb7)
      go_roundg (In - (j + 1))
      case measure => have := hk.out; omega
      case rel =>
        refine ⟨j + 1, A2, c2, (by show In - (j + 1) + (j + 1) = In; omega), by go_num, ⟨?_⟩⟩
        rw [List.take_add_one, HP.out, Option.toList_some]
        exact HF.out
    · obtain rfl : In = j := by omega
      have d1 : decide ((In : Int) < (In : Int)) = false := by simp
      have h9 := hI.out
      rw [List.take_of_length_le (by rw [HLL.out.1]; exact Nat.le_refl _)] at h9
      have H9 := Aside0.mk h9
      clear h9 hI hk
      obtain ⟨JA, hJA⟩ : ∃ x, AA = x := ⟨_, rfl⟩
      obtain ⟨Jc, hJc⟩ : ∃ x, cc = x := ⟨_, rfl⟩
      rw [hJA, hJc] at H9
      clear hJA hJc
      obtain ⟨y0, y1, y2⟩ := nd_cells H9.out.rn
      go_wp2_with fail
      clear y0 y1 y2
      go_loopg [28] Kn (fun gk v28 wr => ∃ (j : Nat) (AA : Option Addr) (cc : Nat), Aside (gk + j = Kn) ∧ v28 = .int .i64 (j : Int) ∧ Aside0 (OfS w 35 70 72 N T2 T3 (.cells #[.bool lf, .slice IA In Ic, .slice KA Kn Kc] 28) (.cells #[.bool false, .slice none 0 0, .slice none 0 0] 35) lf (JA, In, Jc) (AA, j, cc) is (ks.take j) wr))
      case atStart => exact ⟨0, none, 0, rfl, rfl, ⟨H9.out⟩⟩
      case round =>
        obtain ⟨j, AA, cc, hk, rfl, hI⟩ := hrel
        have hjm : j ≤ Kn := by have := hk.out; omega
        rcases Nat.lt_or_ge j Kn with hlt | hge
        · have d2 : decide ((j : Int) < (Kn : Int)) = true := decide_eq_true (by omega)
          have hjn : (j : Int) < (Kn : Int) := by omega
          obtain ⟨ad, p, e0, hp, c0, c1⟩ := (HT.out _ hI.out.bel).rk.kid (HT.out _ hI.out.bel).lk j hlt
          simp only at e0
          subst e0
          obtain ⟨⟨pk, pkn, pkc⟩, pr⟩ := p
          unfold shv at c0
          simp only at c0 c1
          have HP := Aside0.mk hp
          clear hp
          go_upto_region 10 with fail
          have h5 := hI.out.step ((Below.refl _ wr).alloc (Nat.le_refl _) (.cells #[.slice pk pkn pkc, .int .i64 pr] 74))
          have H5 := Aside0.mk (And.intro h5 (heap_alloc_new wr (.cells #[.slice pk pkn pkc, .int .i64 pr] 74)))
          obtain ⟨w5, hw5⟩ : ∃ X, wr.alloc (.cells #[.slice pk pkn pkc, .int .i64 pr] 74) = X := ⟨_, rfl⟩
          obtain ⟨M, hM⟩ : ∃ X, wr.heap.size = X := ⟨_, rfl⟩
          rw [hw5, hM] at H5
          rw [hw5, hM]
          have z0 : w5.cell? ⟨M, 0, none⟩ = some (.slice pk pkn pkc) := by rw [cell_of_row _ _ _ _ _ _ H5.out.2]; rfl
          have z1 : w5.cell? ⟨M, 1, none⟩ = some (.int .i64 pr) := by rw [cell_of_row _ _ _ _ _ _ H5.out.2]; rfl
          clear hw5 hM h5
          clear c0 c1
          obtain ⟨x0, x1, x2⟩ := nd_cells H5.out.1.ro
          have h6 := H5.out.1.step ((Below.refl _ w5).alloc (Nat.le_refl _) (.cells #[.slice pk pkn pkc, .int .i64 pr] 72))
          have hl6 : (w5.alloc (.cells #[.slice pk pkn pkc, .int .i64 pr] 72)).rangeAt w5.heap.size 0 (kh2 ⟨(pk, pkn, pkc), pr⟩) := lit_range w5 #[.slice pk pkn pkc, .int .i64 pr] 72 [.slice pk pkn pkc, .int .i64 pr] rfl
          have yN := fun j => Go.Joins.unfrozen_of_block h6.ro j
          have H6 := Aside0.mk (And.intro h6 hl6)
          clear h6 hl6
          go_wp2_with (at_builtin; refine wpl_oc w.heap.size (by rfl) _ _ 33 72 (.agg #[.slice none 0 0, .int .i64 0]) 2 32 (by rfl) Tryz.underlying33 infoRKd rfl (by omega) (by omega) (by omega) AA j cc _ (khv (ks.take j)) (kh2 ⟨(pk, pkn, pkc), pr⟩) (by rfl) (by rfl) H6.out.1.ok rfl H6.out.2 (fun u hu => (khv_one [⟨(pk, pkn, pkc), pr⟩]) u (by simpa [khv] using hu)) H6.out.1.bel.size (by omega) ?_; intro A2 c2 w7 hO hG hA; (have HF := Aside0.mk (H6.out.1.addK (p := ⟨(pk, pkn, pkc), pr⟩) hO.out hG.out hA.out)); (have hb7 := (hG.out.block _ (Array.getElem?_eq_some_iff.1 H6.out.1.ro).1 (fun e => (H6.out.1.nk _ e).2.2 rfl)).trans H6.out.1.ro); clear yN x0 x1 x2; (obtain ⟨x0, x1, x2⟩ := nd_cells hb7); (have yN := fun j => Go.Joins.unfrozen_of_block hb7 j); clear hO hG hA hb7)
          go_roundg (Kn - (j + 1))
          case measure => have := hk.out; omega
          case rel =>
            refine ⟨j + 1, A2, c2, (by show Kn - (j + 1) + (j + 1) = Kn; omega), by go_num, ⟨?_⟩⟩
            rw [List.take_add_one, HP.out, Option.toList_some]
            exact HF.out
        · obtain rfl : Kn = j := by omega
          have d2 : decide ((Kn : Int) < (Kn : Int)) = false := by simp
          have h9 := hI.out
          rw [List.take_of_length_le (by rw [HLL.out.2]; exact Nat.le_refl _)] at h9
          have H10 := Aside0.mk h9
          clear h9 hI hk
          obtain ⟨x0, x1, x2⟩ := nd_cells H10.out.ro
          obtain ⟨y0, y1, y2⟩ := nd_cells H10.out.rt
          have yN := fun j => Go.Joins.unfrozen_of_block H10.out.rt j
          have HDL := Aside0.mk (rnload (nrow3_set (.bool lf) (.slice JA In Jc) (.slice AA Kn cc) H10.out.rt))
          have HOB := Aside0.mk (nonly_set3 (W := wr) (g := T2) (.bool lf) (.slice JA In Jc) (.slice AA Kn cc))
          go_wp2_with fail
          have hD := HDL.out
          refine bodyPost_ret (v := .agg #[.bool lf, .slice JA In Jc, .slice AA Kn cc]) (by simp [results, Tryz.results9, asAddr, hD]) rfl ?_
          have hB := HOB.out.below H10.out.bel (by have := H10.out.lo; omega) (Nat.le_refl _)
          have hd := HT.out _ hB
          exact ⟨⟨lf, (JA, In, Jc), (AA, Kn, cc)⟩, rfl, ⟨is, ks, ⟨hd.leaf, (H10.out.oi.only HOB.out (fun q e => (H10.out.ni q e).2.1)).rc, (H10.out.ok.only HOB.out (fun q e => (H10.out.nk q e).2.1)).rc, hd.li, hd.lk, hd.its, hd.kds, hd.bi, hd.bk⟩⟩, hB⟩
end Go.Proofs.YtbjfklgmbeaaoaaGreat
