/- The document's disk: Do where it grows. -/
import Derived.Test.YthhalmjapiempaaS7
set_option linter.unusedVariables false
set_option linter.unusedSimpArgs false
namespace Go.Proofs.Ythhalmjapiempaa
open Go.RowKit

set_option maxHeartbeats 16000000 in
set_option maxRecDepth 100000 in
theorem rgrow_any (A : Option Addr) (n c : Nat) (B : Option Addr) (m e : Nat) (hs : List (Int × Option Addr × Nat × Nat)) (d : DV) (k : Int) (w : World) (h : RM w A n c B m e hs d) (ok : d.ok (nD d)) (hn : n ≤ 100000000) (hf : d.fuse ≤ 9223372036854775807) (ho : 0 ≤ d.ops ∧ d.ops ≤ 1000000) :
    Calls Try.prog 22 #[.agg (rv d A n c B m e), .agg #[.int .i64 0, .int .i64 k, .int .i64 0, .slice none 0 0, .slice none 0 0]] w (RDo (growD d k) (growE d k) w) := by
  have hln : d.l.length = n := h.bl.len
  have hnd : n = nD d * 64 := by rw [← hln]; exact ok.len
  obtain ⟨bd, hbd⟩ : ∃ b : Obj, Obj.cells #[.int .i64 d.limit, .slice A n c, .slice B m e, .int .i64 d.ops, .int .i64 d.fuse, .bool d.down] 47 = b := ⟨_, rfl⟩
  obtain ⟨bo, hbo⟩ : ∃ b : Obj, Obj.cells #[.int .i64 0, .int .i64 k, .int .i64 0, .slice none 0 0, .slice none 0 0] 54 = b := ⟨_, rfl⟩
  obtain ⟨h1, h2, h3, h4⟩ := heap3 w bd bo (.cells #[.int .i64 0, .slice none 0 0, .slice none 0 0, .int .i64 0, .int .i64 0, .bool false] 47)
  have H0 := Aside0.mk (And.intro h1 (And.intro h2 (And.intro h3 h4)))
  have HW := Aside0.mk h
  have HOK := Aside0.mk ok
  have HND := Aside0.mk hnd
  have HF := Aside0.mk (And.intro hf ho)
  replace hbd := Aside0.mk hbd
  replace hbo := Aside0.mk hbo
  clear h h1 h2 h3 h4 ok hln hnd hf ho
  show Calls Try.prog 22 #[.agg #[.int .i64 d.limit, .slice A n c, .slice B m e, .int .i64 d.ops, .int .i64 d.fuse, .bool d.down], .agg #[.int .i64 0, .int .i64 k, .int .i64 0, .slice none 0 0, .slice none 0 0]] w _
  go_enter Try.func22, Try.ntmps22
  go_upto_region 1 with fail
  rw [hbd.out, hbo.out]
  obtain ⟨w0, hw0⟩ : ∃ X, ((w.alloc bd).alloc bo).alloc (.cells #[.int .i64 0, .slice none 0 0, .slice none 0 0, .int .i64 0, .int .i64 0, .bool false] 47) = X := ⟨_, rfl⟩
  obtain ⟨N2, hN2⟩ : ∃ X, w.heap.size + 1 + 1 = X := ⟨_, rfl⟩
  obtain ⟨N1, hN1⟩ : ∃ X, w.heap.size + 1 = X := ⟨_, rfl⟩
  obtain ⟨N, hN⟩ : ∃ X, w.heap.size = X := ⟨_, rfl⟩
  rw [hw0, hN2, hN1, hN] at H0
  rw [hw0, hN2, hN1, hN]
  have hN' := Aside0.mk hN
  have hNN := Aside0.mk (show N < N1 ∧ N1 < N2 by omega)
  clear hw0 hN2 hN1 hN
  have hYO := Aside0.mk (show ∀ X : World, X.heap[N1]? = some bo → X.cell? ⟨N1, 0, none⟩ = some (.int .i64 0) ∧ X.cell? ⟨N1, 1, none⟩ = some (.int .i64 k) ∧ X.cell? ⟨N1, 2, none⟩ = some (.int .i64 0) ∧ X.cell? ⟨N1, 3, none⟩ = some (.slice none 0 0) ∧ X.cell? ⟨N1, 4, none⟩ = some (.slice none 0 0) from fun X hX => by rw [← hbo.out] at hX; exact row5_cells8 hX)
  have hr0 := H0.out.1
  rw [← hbd.out] at hr0
  clear hbd hbo
  have HRM := Aside0.mk (show ∀ X : World, Below N w X → RM X A n c B m e hs d from fun X hX => HW.out.below (by rw [hN'.out]; exact hX))
  have HSZ := Aside0.mk (show ∀ X : World, Below N w X → N ≤ X.heap.size from fun X hX => by rw [← hN'.out]; exact hX.size)
  have yf := fun j => Go.Joins.unfrozen_of_block H0.out.2.2.1 j
  have yn := fun j => Go.Joins.unfrozen_of_block hr0 j
  have HR0 := Aside0.mk hr0
  obtain ⟨x0, x1, x2, x3, x4, x5⟩ := row6_cells hr0
  obtain ⟨y0, y1, y2, y3, y4⟩ := hYO.out _ H0.out.2.1
  obtain ⟨z0, z1, z2, z3, z4, z5⟩ := row6_cells H0.out.2.2.1
  clear hr0
  cases hdn : d.down with
  | true =>
    rw [hdn] at x5
    have HDN := Aside0.mk hdn
    clear hdn
    have HD := Aside0.mk (dload (row6_set (.int .i64 d.limit) (.slice A n c) (.slice B m e) (.int .i64 d.ops) (.int .i64 d.fuse) (.bool true) H0.out.2.2.1))
    go_wp2_with fail
    have hD := HD.out
    refine bodyPost_ret (v := .tuple #[.agg #[.int .i64 d.limit, .slice A n c, .slice B m e, .int .i64 d.ops, .int .i64 d.fuse, .bool true], .slice none 0 0, .int .i64 10]) (by simp [results, Try.results22, asAddr, hD]) rfl ?_
    have hB := below_only H0.out.2.2.2 (only_set6 (W := w0) (g := N2) (.int .i64 d.limit) (.slice A n c) (.slice B m e) (.int .i64 d.ops) (.int .i64 d.fuse) (.bool true)) (by have := hNN.out; omega) (HSZ.out _ H0.out.2.2.2)
    rw [show growD d k = d from if_neg (by unfold growE; rw [if_pos HDN.out]; decide), show growE d k = 10 from if_pos HDN.out]
    exact ⟨A, n, c, B, m, e, hs, by unfold rv; rw [HDN.out], HRM.out _ hB, by rw [hN'.out]; exact hB⟩
  | false =>
    rw [hdn] at x5
    have HDN := Aside0.mk hdn
    clear hdn
    by_cases qk : d.limit < k
    · have gk : decide (d.limit < k) = true := decide_eq_true qk
      have HE := Aside0.mk (show growE d k = 12 by unfold growE; rw [if_neg (by rw [HDN.out]; decide), if_pos qk])
      clear qk
      have HD := Aside0.mk (dload (row6_set (.int .i64 d.limit) (.slice A n c) (.slice B m e) (.int .i64 d.ops) (.int .i64 d.fuse) (.bool false) H0.out.2.2.1))
      go_wp2_with fail
      have hD := HD.out
      refine bodyPost_ret (v := .tuple #[.agg #[.int .i64 d.limit, .slice A n c, .slice B m e, .int .i64 d.ops, .int .i64 d.fuse, .bool false], .slice none 0 0, .int .i64 12]) (by simp [results, Try.results22, asAddr, hD]) rfl ?_
      have hB := below_only H0.out.2.2.2 (only_set6 (W := w0) (g := N2) (.int .i64 d.limit) (.slice A n c) (.slice B m e) (.int .i64 d.ops) (.int .i64 d.fuse) (.bool false)) (by have := hNN.out; omega) (HSZ.out _ H0.out.2.2.2)
      rw [show growD d k = d from if_neg (by rw [HE.out]; decide), HE.out]
      exact ⟨A, n, c, B, m, e, hs, by unfold rv; rw [HDN.out], HRM.out _ hB, by rw [hN'.out]; exact hB⟩
    · have gk : decide (d.limit < k) = false := decide_eq_false qk
      have HE := Aside0.mk (show growE d k = 0 by unfold growE; rw [if_neg (by rw [HDN.out]; decide), if_neg qk])
      obtain ⟨p, hp⟩ : ∃ x, 64 * (k.toNat - nD d) = x := ⟨_, rfl⟩
      have HP := Aside0.mk (show 64 * (k.toNat - n / 64) = p ∧ n % 64 = 0 ∧ k ≤ 65536 by
        have := HND.out; have := HOK.out.lim
        rw [← hp, show n / 64 = nD d by omega]
        exact ⟨rfl, by omega, by omega⟩)
      have HPD := Aside0.mk hp
      clear qk hp
      have HW := Aside0.mk (Ow.lit0 w0 w0.heap.size w0.heap.size rfl (Nat.le_refl _))
      have HBA := Aside0.mk (HRM.out _ H0.out.2.2.2).bl
      have x1' := cell_below ((Below.refl _ w0).alloc (Nat.le_refl _) (.cells #[] 5)) x1
      go_upto_region 20 with (at_builtin; refine wpl_a8 (w0 := w0) w0.heap.size rfl _ _ rfl _ 0 0 [] A n c d.l n _ rfl rfl HW.out (HBA.out.alloc _) ((Below.refl _ _).alloc (Nat.le_refl _) _) (by simp) (by omega) (by omega) rfl ?_; clear HW; intro A3 c3 w3 hO3 hB3)
      clear x0 x1 x2 x3 x4 x5 y0 y1 y2 y3 y4 z0 z1 z2 z3 z4 z5 yf yn x1'
      go_loopg [8] p (fun gk v8 wr => ∃ (j : Nat) (A6 : Option Addr) (c6 nn : Nat), Aside (gk + j = p) ∧ v8 = .slice A6 nn c6 ∧ Aside0 (nn = n + j ∧ Ow wr w0.heap.size A6 nn c6 (d.l ++ List.replicate j 0) ∧ Below w0.heap.size w0 wr))
      case atStart => exact ⟨0, A3, c3, n, rfl, rfl, ⟨rfl, by rw [List.replicate_zero, List.append_nil]; exact hO3.out, hB3.out⟩⟩
      case round =>
        obtain ⟨j, A6, c6, nn, hk, rfl, hI⟩ := hrel
        clear hO3 hB3
        have hjp : j ≤ p := by have := hk.out; omega
        have H5 := Aside0.mk (And.intro ((hI.out.2.2.block _ (Array.getElem?_eq_some_iff.1 HR0.out).1).trans HR0.out) (And.intro ((hI.out.2.2.block _ (Array.getElem?_eq_some_iff.1 H0.out.2.1).1).trans H0.out.2.1) ((hI.out.2.2.block _ (Array.getElem?_eq_some_iff.1 H0.out.2.2.1).1).trans H0.out.2.2.1)))
        obtain ⟨y0, y1, y2, y3, y4⟩ := hYO.out _ H5.out.2.1
        obtain ⟨s, hs9⟩ : ∃ s : Nat, nn / 64 = s := ⟨_, rfl⟩
        have dv : (nn : Int).tdiv 64 = (s : Int) := by rw [div64, hs9]
        have dv2 : (nn : Int) / 64 = (s : Int) := by omega
        have HN := Aside0.mk (show nn ≤ 104300000 by have := hI.out.1; have := HP.out; omega)
        have HS := Aside0.mk hs9
        have w1' : IntKind.i64.wrap (s : Int) = (s : Int) := IntWalk.i64_in _ (by have := HN.out; omega)
        clear hs9
        rcases Nat.lt_or_ge j p with hlt | hge
        · have g1 : decide (0 < k) = true := decide_eq_true (by have := HP.out; omega)
          have g2 : decide ((s : Int) < k) = true := decide_eq_true (by have := HP.out; have := HS.out; have := hI.out.1; omega)
          have HLt := Aside0.mk (Bs.lit wr wr.heap.size rfl #[.int .u8 0] 5 (0, 0) 1 1 [0] rfl rfl (Nat.le_refl _) (by omega) (by omega))
          have HA := Aside0.mk (And.intro (hI.out.2.1.alloc (.cells #[.int .u8 0] 5)) (below_alloc hI.out.2.2 hI.out.2.2.size (.cells #[.int .u8 0] 5)))
          have HZ := Aside0.mk (show (d.l ++ List.replicate j 0) ++ [0] = d.l ++ List.replicate (j + 1) (0 : UInt8) by rw [List.append_assoc, List.replicate_succ'])
          go_wp2_with (at_builtin; (refine wpl_a8 (w0 := w0) w0.heap.size rfl _ _ rfl A6 nn c6 (d.l ++ List.replicate j 0) _ 1 1 [0] (nn + 1) (d.l ++ List.replicate (j + 1) 0) rfl rfl HA.out.1 HLt.out HA.out.2 (by have := hI.out.2.2.size; first | (simp; done) | (simp; omega)) rfl (by have := HN.out; omega) HZ.out ?_); intro A8 c8 w8 hO8 hB8)
          go_roundg (p - (j + 1))
          case measure => have := hk.out; omega
          case rel => exact ⟨j + 1, A8, c8, nn + 1, by have := hk.out; exact (show p - (j + 1) + (j + 1) = p by omega), rfl, ⟨by have := hI.out.1; omega, hO8.out, hB8.out⟩⟩
        · obtain rfl : p = j := by omega
          obtain ⟨t1, ht1⟩ : ∃ t1, decide (0 < k) = t1 := ⟨_, rfl⟩
          have g2 : t1 = true → decide ((s : Int) < k) = false := fun h => decide_eq_false (by have := HP.out; have := HS.out; have := hI.out.1; omega)
          have HI := Aside0.mk hI.out
          clear hge hjp
          cases t1 with
          | true =>
            have g3 := g2 rfl
            clear g2
            go_upto_region 22 with fail
            clear y0 y1 y2 y3 y4
            have yn := fun j => Go.Joins.unfrozen_of_block H5.out.1 j
            have hr5 := H5.out.1
            rw [HDN.out] at hr5
            have HR5 := Aside0.mk hr5
            obtain ⟨x0, x1, x2, x3, x4, x5⟩ := row6_cells hr5
            clear hr5
            go_upto_region 36 with fail
            have hO4 := (OnlyB.refl N wr).set 1 (.slice A6 nn c6)
            have hr4 := heap_setCell_same wr N 1 _ _ (.slice A6 nn c6) HR5.out
            have hz4 := (hO4.block _ (Array.getElem?_eq_some_iff.1 H5.out.2.2).1 (by have := hNN.out; omega)).trans H5.out.2.2
            have H4 := Aside0.mk (And.intro hr4 (And.intro hz4 hO4))
            obtain ⟨w4, hw4⟩ : ∃ X, wr.setCell ⟨N, 1, none⟩ (.slice A6 nn c6) = X := ⟨_, rfl⟩
            rw [hw4] at H4 ⊢
            clear hw4 hO4 hr4 hz4 yn x0 x1 x2 x3 x4 x5
            obtain ⟨x0, x1, x2, x3, x4, x5⟩ := row6_cells H4.out.1
            obtain ⟨z0, z1, z2, z3, z4, z5⟩ := row6_cells H4.out.2.1
            have yf := fun j => Go.Joins.unfrozen_of_block H4.out.2.1 j
            have HD := Aside0.mk (dload (row6_set (.int .i64 d.limit) (.slice A6 nn c6) (.slice B m e) (.int .i64 d.ops) (.int .i64 d.fuse) (.bool false) H4.out.2.1))
            go_wp2_with fail
            have hD := HD.out
            refine bodyPost_ret (v := .tuple #[.agg #[.int .i64 d.limit, .slice A6 nn c6, .slice B m e, .int .i64 d.ops, .int .i64 d.fuse, .bool false], .slice none 0 0, .int .i64 0]) (by simp [results, Try.results22, asAddr, hD]) rfl ?_
            have hB3 := below_then H0.out.2.2.2 (HSZ.out _ H0.out.2.2.2) hI.out.2.2
            have hB4 := below_only hB3 H4.out.2.2 (Nat.le_refl _) (HSZ.out _ hB3)
            have hB := below_only hB4 (only_set6 (W := w4) (g := N2) (.int .i64 d.limit) (.slice A6 nn c6) (.slice B m e) (.int .i64 d.ops) (.int .i64 d.fuse) (.bool false)) (by have := hNN.out; omega) (HSZ.out _ hB4)
            rw [show growD d k = { d with l := d.l ++ List.replicate p 0 } by unfold growD; rw [if_pos HE.out, HPD.out], HE.out]
            have hR := HRM.out _ hB
            have h9 : N2 < w0.heap.size := (Array.getElem?_eq_some_iff.1 H0.out.2.2.1).1
            have hhd : 0 < nn → ∀ b, A6 = some b → w0.heap.size ≤ b.block := fun h0 b e2 => by (obtain ⟨q, e3, hq, _⟩ := hI.out.2.1.head h0); rw [e3] at e2; injection e2 with e2; rw [← e2]; exact hq
            refine ⟨A6, nn, c6, B, m, e, hs, by unfold rv; rw [show ({ d with l := d.l ++ List.replicate p 0 } : DV).down = false from HDN.out], ⟨?_, hR.rr, hR.hl, hR.len, hR.each⟩, by rw [hN'.out]; exact hB⟩
            refine (hI.out.2.1.bs.only6 H4.out.2.2 (fun h0 a ea => ?_)).only6 (only_set6 _ _ _ _ _ _) (fun h0 a ea => ?_)
            · have := hhd h0 a ea; have := hNN.out; omega
            · have := hhd h0 a ea; omega
          | false =>
            clear g2
            go_upto_region 22 with fail
            clear y0 y1 y2 y3 y4
            have yn := fun j => Go.Joins.unfrozen_of_block H5.out.1 j
            have hr5 := H5.out.1
            rw [HDN.out] at hr5
            have HR5 := Aside0.mk hr5
            obtain ⟨x0, x1, x2, x3, x4, x5⟩ := row6_cells hr5
            clear hr5
            go_upto_region 36 with fail
            have hO4 := (OnlyB.refl N wr).set 1 (.slice A6 nn c6)
            have hr4 := heap_setCell_same wr N 1 _ _ (.slice A6 nn c6) HR5.out
            have hz4 := (hO4.block _ (Array.getElem?_eq_some_iff.1 H5.out.2.2).1 (by have := hNN.out; omega)).trans H5.out.2.2
            have H4 := Aside0.mk (And.intro hr4 (And.intro hz4 hO4))
            obtain ⟨w4, hw4⟩ : ∃ X, wr.setCell ⟨N, 1, none⟩ (.slice A6 nn c6) = X := ⟨_, rfl⟩
            rw [hw4] at H4 ⊢
            clear hw4 hO4 hr4 hz4 yn x0 x1 x2 x3 x4 x5
            obtain ⟨x0, x1, x2, x3, x4, x5⟩ := row6_cells H4.out.1
            obtain ⟨z0, z1, z2, z3, z4, z5⟩ := row6_cells H4.out.2.1
            have yf := fun j => Go.Joins.unfrozen_of_block H4.out.2.1 j
            have HD := Aside0.mk (dload (row6_set (.int .i64 d.limit) (.slice A6 nn c6) (.slice B m e) (.int .i64 d.ops) (.int .i64 d.fuse) (.bool false) H4.out.2.1))
            go_wp2_with fail
            have hD := HD.out
            refine bodyPost_ret (v := .tuple #[.agg #[.int .i64 d.limit, .slice A6 nn c6, .slice B m e, .int .i64 d.ops, .int .i64 d.fuse, .bool false], .slice none 0 0, .int .i64 0]) (by simp [results, Try.results22, asAddr, hD]) rfl ?_
            have hB3 := below_then H0.out.2.2.2 (HSZ.out _ H0.out.2.2.2) hI.out.2.2
            have hB4 := below_only hB3 H4.out.2.2 (Nat.le_refl _) (HSZ.out _ hB3)
            have hB := below_only hB4 (only_set6 (W := w4) (g := N2) (.int .i64 d.limit) (.slice A6 nn c6) (.slice B m e) (.int .i64 d.ops) (.int .i64 d.fuse) (.bool false)) (by have := hNN.out; omega) (HSZ.out _ hB4)
            rw [show growD d k = { d with l := d.l ++ List.replicate p 0 } by unfold growD; rw [if_pos HE.out, HPD.out], HE.out]
            have hR := HRM.out _ hB
            have h9 : N2 < w0.heap.size := (Array.getElem?_eq_some_iff.1 H0.out.2.2.1).1
            have hhd : 0 < nn → ∀ b, A6 = some b → w0.heap.size ≤ b.block := fun h0 b e2 => by (obtain ⟨q, e3, hq, _⟩ := hI.out.2.1.head h0); rw [e3] at e2; injection e2 with e2; rw [← e2]; exact hq
            refine ⟨A6, nn, c6, B, m, e, hs, by unfold rv; rw [show ({ d with l := d.l ++ List.replicate p 0 } : DV).down = false from HDN.out], ⟨?_, hR.rr, hR.hl, hR.len, hR.each⟩, by rw [hN'.out]; exact hB⟩
            refine (hI.out.2.1.bs.only6 H4.out.2.2 (fun h0 a ea => ?_)).only6 (only_set6 _ _ _ _ _ _) (fun h0 a ea => ?_)
            · have := hhd h0 a ea; have := hNN.out; omega
            · have := hhd h0 a ea; omega
end Go.Proofs.Ythhalmjapiempaa
