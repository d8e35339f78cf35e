/- Load, told where its bytes are; Do that arms, told which slices; what Run does with the ops of a commit, and of a format; stands. -/
import Derived.Test.YthhalmjapiempaaSC
import Derived.Test.YthhalmjapiempaaS2
set_option linter.unusedVariables false
set_option linter.unusedSimpArgs false
namespace Go.Proofs.Ythhalmjapiempaa
open Go.RowKit

set_option maxHeartbeats 8000000 in
set_option maxRecDepth 100000 in
theorem rload2_any (K : Option Addr) (kn kc : Nat) (xs : List UInt8) (limit : Int) (w : World) (hb : Bs w K kn kc xs) (hkn : kn ≤ 1000000) :
    Calls Try.prog 20 #[.slice K kn kc, .int .i64 limit] w fun e w' => ∃ A1 n1 c1, e = .returned (.agg (rv (lodD xs limit) A1 n1 c1 none 0 0)) ∧ RM w' A1 n1 c1 none 0 0 [] (lodD xs limit) ∧ Below w.heap.size w w' ∧ (0 < n1 → ∀ a, A1 = some a → w.heap.size ≤ a.block) := by
  have hkl := hb.len
  obtain ⟨L, hL⟩ : ∃ x, limI limit = x := ⟨_, rfl⟩
  have hL0 := limI_le limit
  rw [hL] at hL0
  have HL := Aside0.mk hL
  obtain ⟨p, hp⟩ : ∃ x, pad64 kn = x := ⟨_, rfl⟩
  have hp2 : (kn + p) % 64 = 0 ∧ p < 64 := by rw [← hp]; unfold pad64; omega
  have HP := Aside0.mk hp2
  have HK := Aside0.mk hkl
  have hB0 := (Below.refl _ w).alloc (Nat.le_refl _) (.cells #[.int .i64 0, .slice none 0 0, .slice none 0 0, .int .i64 0, .int .i64 0, .bool false] 47)
  have H0 := Aside0.mk (And.intro (hb.below hB0) (And.intro (heap_alloc_new w (.cells #[.int .i64 0, .slice none 0 0, .slice none 0 0, .int .i64 0, .int .i64 0, .bool false] 47)) hB0))
  clear hb hkl hL hp hp2 hB0
  go_enter Try.func20, Try.ntmps20
  go_upto_region 1 with fail
  obtain ⟨w0, hw0⟩ : ∃ X, w.alloc (.cells #[.int .i64 0, .slice none 0 0, .slice none 0 0, .int .i64 0, .int .i64 0, .bool false] 47) = X := ⟨_, rfl⟩
  obtain ⟨N, hN⟩ : ∃ X, w.heap.size = X := ⟨_, rfl⟩
  rw [hw0, hN] at H0
  rw [hw0, hN]
  have hN' := Aside0.mk hN
  clear hw0 hN
  go_upto_region 2 with (go_at_call 51; refine (rnew_any limit w0).mono ?_; rintro e w1 ⟨rfl, hB⟩; rw [HL.out]; (have H1 := Aside0.mk (And.intro (H0.out.1.below hB) (And.intro ((hB.block _ (Array.getElem?_eq_some_iff.1 H0.out.2.1).1).trans H0.out.2.1) (below_then H0.out.2.2 (by rw [← hN'.out]; exact H0.out.2.2.size) hB)))); clear hB)
  have hB2 := (Below.refl _ w1).alloc (Nat.le_refl _) (.cells #[.int .i64 L, .slice none 0 0, .slice none 0 0, .int .i64 0, .int .i64 (-1), .bool false] 47)
  have H2 := Aside0.mk (And.intro (H1.out.1.below hB2) (And.intro ((hB2.block _ (Array.getElem?_eq_some_iff.1 H1.out.2.1).1).trans H1.out.2.1) (And.intro (below_then H1.out.2.2 (by rw [← hN'.out]; exact H1.out.2.2.size) hB2) (And.intro (heap_alloc_new w1 (.cells #[.int .i64 L, .slice none 0 0, .slice none 0 0, .int .i64 0, .int .i64 (-1), .bool false] 47)) (Array.getElem?_eq_some_iff.1 H1.out.2.1).1))))
  obtain ⟨w2, hw2⟩ : ∃ X, w1.alloc (.cells #[.int .i64 L, .slice none 0 0, .slice none 0 0, .int .i64 0, .int .i64 (-1), .bool false] 47) = X := ⟨_, rfl⟩
  obtain ⟨M, hM⟩ : ∃ X, w1.heap.size = X := ⟨_, rfl⟩
  rw [hw2, hM] at H2
  rw [hw2, hM]
  clear hw2 hM hB2
  have HW := Aside0.mk (Ow.lit0 w2 w2.heap.size w2.heap.size rfl (Nat.le_refl _))
  go_upto_region 3 with (at_builtin; refine wpl_a8 (w0 := w2) w2.heap.size rfl (.tmp 9) (.tmp 10) rfl _ 0 0 [] K kn kc xs kn _ rfl rfl HW.out (H2.out.1.alloc _) ((Below.refl _ _).alloc (Nat.le_refl _) _) (by simp) (by omega) (by omega) rfl ?_; clear HW; intro A3 c3 w3 hO3 hB3)
  go_loopg [6] p (fun gk v6 wr => ∃ (j : Nat) (A6 : Option Addr) (c6 nn : Nat), Aside (gk + j = p) ∧ v6 = .slice A6 nn c6 ∧ Aside0 (nn = kn + j ∧ Ow wr w2.heap.size A6 nn c6 (xs ++ List.replicate j 0) ∧ Below w2.heap.size w2 wr))
  case atStart => exact ⟨0, A3, c3, kn, rfl, rfl, ⟨rfl, by rw [List.replicate_zero, List.append_nil]; exact hO3.out, hB3.out⟩⟩
  case round =>
    obtain ⟨j, A6, c6, nn, hk, rfl, hI⟩ := hrel
    clear hO3 hB3
    have hjp : j ≤ p := by have := hk.out; omega
    rcases Nat.lt_or_ge j p with hlt | hge
    · obtain ⟨r, hr⟩ : ∃ r : Int, (nn : Int) % 64 = r := ⟨_, rfl⟩
      have gr : (r != 0) = true := bne_iff_ne.2 (by have := HP.out; have := hI.out.1; omega)
      have HLt := Aside0.mk (Bs.lit wr wr.heap.size rfl #[.int .u8 0] 5 (0, 0) 1 1 [0] rfl rfl (Nat.le_refl _) (by omega) (by omega))
      have HA := Aside0.mk (And.intro (hI.out.2.1.alloc (.cells #[.int .u8 0] 5)) (below_alloc hI.out.2.2 hI.out.2.2.size (.cells #[.int .u8 0] 5)))
      have HZ := Aside0.mk (show (xs ++ List.replicate j 0) ++ [0] = xs ++ List.replicate (j + 1) (0 : UInt8) by rw [List.append_assoc, List.replicate_succ'])
      have HN := Aside0.mk (show nn ≤ 1000100 by have := hI.out.1; have := HP.out; omega)
      go_wp2_with (at_builtin; (refine wpl_a8 (w0 := w2) w2.heap.size rfl _ _ rfl A6 nn c6 (xs ++ List.replicate j 0) _ 1 1 [0] (nn + 1) (xs ++ List.replicate (j + 1) 0) rfl rfl HA.out.1 HLt.out HA.out.2 (by have := hI.out.2.2.size; first | (simp; done) | (simp; omega)) rfl (by have := HN.out; omega) HZ.out ?_); intro A8 c8 w8 hO8 hB8)
      go_roundg (p - (j + 1))
      case measure => have := hk.out; omega
      case rel => exact ⟨j + 1, A8, c8, nn + 1, by have := hk.out; exact (show p - (j + 1) + (j + 1) = p by omega), rfl, ⟨by have := hI.out.1; omega, hO8.out, hB8.out⟩⟩
    · obtain rfl : p = j := by omega
      have hr : (nn : Int) % 64 = 0 := by have := HP.out; have := hI.out.1; omega
      have hcut := load_cut xs p L hL0.1 (by rw [HK.out]; exact HP.out.1) HP.out.2
      rw [HK.out, ← hI.out.1] at hcut
      have hrM := (hI.out.2.2.block _ (Array.getElem?_eq_some_iff.1 H2.out.2.2.2.1).1).trans H2.out.2.2.2.1
      have hrN := (hI.out.2.2.block _ (Array.getElem?_eq_some_iff.1 H2.out.2.1).1).trans H2.out.2.1
      have HWR := Aside0.mk (And.intro hrM (And.intro hrN (And.intro hI.out.2.1 hI.out.2.2)))
      obtain ⟨x0, x1, x2, x3, x4, x5⟩ := row6_cells hrM
      have w1' : IntKind.i64.wrap (64 * L) = 64 * L := IntWalk.i64_in _ (by omega)
      have fin : ∀ (A1 : Option Addr) (n1 c1 : Nat), Ow wr w2.heap.size A1 n1 c1 (loadL xs (cntL kn L)) ∨ (Bs wr A1 n1 c1 (loadL xs (cntL kn L)) ∧ (0 < n1 → ∀ a, A1 = some a → w2.heap.size ≤ a.block)) → True := fun _ _ _ _ => trivial
      clear fin hrM hrN
      have hBl : 0 < nn → ∀ a, A6 = some a → w2.heap.size ≤ a.block := fun h0 a e => by
        obtain ⟨g, e2, hg, _⟩ := hI.out.2.1.head h0
        rw [e2] at e
        injection e with e
        rw [← e]
        exact hg
      have HBL := Aside0.mk hBl
      clear hBl
      by_cases qc : 64 * L < (nn : Int)
      · have gc : decide (64 * L < (nn : Int)) = true := decide_eq_true qc
        rw [if_pos qc] at hcut
        have hcap := hI.out.2.1.bs.le
        have hccap := hI.out.2.1.bs.cap
        have t1 : ∀ W : World, (Instr.slice 22 (.slice A6 nn c6) none (some (.int .i64 (64 * L))) none).run Try.prog W = .ok (.slice A6 (64 * L).toNat c6) W := fun W => sl8_h W A6 nn c6 .i64 (64 * L) (by omega) (by omega)
        have hbs := hI.out.2.1.bs.take (64 * L).toNat (by omega)
        rw [hcut] at hbs
        obtain ⟨n1, hn1⟩ : ∃ x, (64 * L).toNat = x := ⟨_, rfl⟩
        rw [hn1] at t1 hbs
        have HBS := Aside0.mk hbs
        have HN1 := Aside0.mk (show n1 ≤ nn by omega)
        clear hbs hcut hcap hccap hn1 qc
        go_upto_region 7 with fail
        have yM := fun j => Go.Joins.unfrozen_of_block HWR.out.1 j
        go_upto_region 8 with fail
        have hrM := heap_setCell_same wr M 1 _ _ (.slice A6 n1 c6) HWR.out.1
        have hoM := (OnlyB.refl M wr).set 1 (.slice A6 n1 c6)
        have hNM : N ≠ M := by have := (Array.getElem?_eq_some_iff.1 H1.out.2.1).1; have := H2.out.2.2.2.2; omega
        have hrN := (hoM.block _ (Array.getElem?_eq_some_iff.1 HWR.out.2.1).1 hNM).trans HWR.out.2.1
        have hMl := (Array.getElem?_eq_some_iff.1 H2.out.2.2.2.1).1
        have hb8 := HBS.out.only6 hoM (fun h0 a e => by have := HBL.out (by have := HN1.out; omega) a e; omega)
        have hB8 := below_only (below_then H2.out.2.2.1 (by rw [← hN'.out]; exact H2.out.2.2.1.size) HWR.out.2.2.2) hoM (Nat.le_of_lt H2.out.2.2.2.2) (by rw [← hN'.out]; exact (below_then H2.out.2.2.1 (by rw [← hN'.out]; exact H2.out.2.2.1.size) HWR.out.2.2.2).size)
        have H8 := Aside0.mk (And.intro hrM (And.intro hrN (And.intro hb8 hB8)))
        obtain ⟨w8, hw8⟩ : ∃ X, wr.setCell ⟨M, 1, none⟩ (.slice A6 n1 c6) = X := ⟨_, rfl⟩
        rw [hw8] at H8 ⊢
        clear hw8 hrM hoM hrN hb8 hB8 hMl hNM yM x0 x1 x2 x3 x4 x5
        obtain ⟨x0, x1, x2, x3, x4, x5⟩ := row6_cells H8.out.1
        obtain ⟨z0, z1, z2, z3, z4, z5⟩ := row6_cells H8.out.2.1
        have yN := fun j => Go.Joins.unfrozen_of_block H8.out.2.1 j
        have HD := Aside0.mk (dload (row6_set (.int .i64 L) (.slice A6 n1 c6) (.slice none 0 0) (.int .i64 0) (.int .i64 (-1)) (.bool false) H8.out.2.1))
        go_wp2_with fail
        have hD := HD.out
        refine bodyPost_ret (v := .agg #[.int .i64 L, .slice A6 n1 c6, .slice none 0 0, .int .i64 0, .int .i64 (-1), .bool false]) (by simp [results, Try.results20, asAddr, hD]) rfl ?_
        have hl : (lodD xs limit).l = loadL xs (cntL kn L) := by
          show loadL xs (cntL xs.length (limI limit)) = _
          rw [HL.out, HK.out]
        have hNl := (Array.getElem?_eq_some_iff.1 H0.out.2.1).1
        have hNl2 : N < w2.heap.size := (Array.getElem?_eq_some_iff.1 H2.out.2.1).1
        refine ⟨A6, n1, c6, ?_, ⟨?_, Rc.nil6 _, rfl, rfl, fun j p h => by cases h⟩, ?_, fun h0 a e => by have := HBL.out (by have := HN1.out; omega) a e; rw [hN'.out]; omega⟩
        · show _ = Ending.returned (.agg #[.int .i64 (limI limit), .slice A6 n1 c6, .slice none 0 0, .int .i64 0, .int .i64 (-1), .bool false])
          rw [HL.out]
        · rw [hl]
          exact H8.out.2.2.1.only6 (only_set6 _ _ _ _ _ _) (fun h0 a e => by have := HBL.out (by have := HN1.out; omega) a e; omega)
        · rw [hN'.out]
          exact below_only H8.out.2.2.2 (only_set6 _ _ _ _ _ _) (Nat.le_refl _) (by rw [← hN'.out]; exact H8.out.2.2.2.size)
      · have gc : decide (64 * L < (nn : Int)) = false := decide_eq_false qc
        rw [if_neg qc] at hcut
        have hbs := hI.out.2.1.bs
        rw [hcut] at hbs
        have HBS := Aside0.mk hbs
        have HN1 := Aside0.mk (Nat.le_refl nn)
        clear hbs hcut qc
        go_upto_region 7 with fail
        have yM := fun j => Go.Joins.unfrozen_of_block HWR.out.1 j
        go_upto_region 8 with fail
        have hrM := heap_setCell_same wr M 1 _ _ (.slice A6 nn c6) HWR.out.1
        have hoM := (OnlyB.refl M wr).set 1 (.slice A6 nn c6)
        have hNM : N ≠ M := by have := (Array.getElem?_eq_some_iff.1 H1.out.2.1).1; have := H2.out.2.2.2.2; omega
        have hrN := (hoM.block _ (Array.getElem?_eq_some_iff.1 HWR.out.2.1).1 hNM).trans HWR.out.2.1
        have hMl := (Array.getElem?_eq_some_iff.1 H2.out.2.2.2.1).1
        have hb8 := HBS.out.only6 hoM (fun h0 a e => by have := HBL.out (by have := HN1.out; omega) a e; omega)
        have hB8 := below_only (below_then H2.out.2.2.1 (by rw [← hN'.out]; exact H2.out.2.2.1.size) HWR.out.2.2.2) hoM (Nat.le_of_lt H2.out.2.2.2.2) (by rw [← hN'.out]; exact (below_then H2.out.2.2.1 (by rw [← hN'.out]; exact H2.out.2.2.1.size) HWR.out.2.2.2).size)
        have H8 := Aside0.mk (And.intro hrM (And.intro hrN (And.intro hb8 hB8)))
        obtain ⟨w8, hw8⟩ : ∃ X, wr.setCell ⟨M, 1, none⟩ (.slice A6 nn c6) = X := ⟨_, rfl⟩
        rw [hw8] at H8 ⊢
        clear hw8 hrM hoM hrN hb8 hB8 hMl hNM yM x0 x1 x2 x3 x4 x5
        obtain ⟨x0, x1, x2, x3, x4, x5⟩ := row6_cells H8.out.1
        obtain ⟨z0, z1, z2, z3, z4, z5⟩ := row6_cells H8.out.2.1
        have yN := fun j => Go.Joins.unfrozen_of_block H8.out.2.1 j
        have HD := Aside0.mk (dload (row6_set (.int .i64 L) (.slice A6 nn c6) (.slice none 0 0) (.int .i64 0) (.int .i64 (-1)) (.bool false) H8.out.2.1))
        go_wp2_with fail
        have hD := HD.out
        refine bodyPost_ret (v := .agg #[.int .i64 L, .slice A6 nn c6, .slice none 0 0, .int .i64 0, .int .i64 (-1), .bool false]) (by simp [results, Try.results20, asAddr, hD]) rfl ?_
        have hl : (lodD xs limit).l = loadL xs (cntL kn L) := by
          show loadL xs (cntL xs.length (limI limit)) = _
          rw [HL.out, HK.out]
        have hNl := (Array.getElem?_eq_some_iff.1 H0.out.2.1).1
        have hNl2 : N < w2.heap.size := (Array.getElem?_eq_some_iff.1 H2.out.2.1).1
        refine ⟨A6, nn, c6, ?_, ⟨?_, Rc.nil6 _, rfl, rfl, fun j p h => by cases h⟩, ?_, fun h0 a e => by have := HBL.out (by have := HN1.out; omega) a e; rw [hN'.out]; omega⟩
        · show _ = Ending.returned (.agg #[.int .i64 (limI limit), .slice A6 nn c6, .slice none 0 0, .int .i64 0, .int .i64 (-1), .bool false])
          rw [HL.out]
        · rw [hl]
          exact H8.out.2.2.1.only6 (only_set6 _ _ _ _ _ _) (fun h0 a e => by have := HBL.out (by have := HN1.out; omega) a e; omega)
        · rw [hN'.out]
          exact below_only H8.out.2.2.2 (only_set6 _ _ _ _ _ _) (Nat.le_refl _) (by rw [← hN'.out]; exact H8.out.2.2.2.size)
set_option maxHeartbeats 8000000 in
set_option maxRecDepth 100000 in
theorem rarm2_any (A : Option Addr) (n c : Nat) (B : Option Addr) (m e : Nat) (hs : List (Int × Option Addr × Nat × Nat)) (d : DV) (k : Int) (w : World) (h : RM w A n c B m e hs d) :
    Calls Try.prog 22 #[.agg (rv d A n c B m e), .agg #[.int .i64 4, .int .i64 k, .int .i64 0, .slice none 0 0, .slice none 0 0]] w fun e' w' => e' = .returned (.tuple #[.agg (rv (armD d k) A n c B m e), .slice none 0 0, .int .i64 0]) ∧ Below w.heap.size w w' := by
  obtain ⟨li, l, row, ops, fu, dn⟩ := d
  have H := Aside0.mk h
  clear h
  show Calls Try.prog 22 #[.agg #[.int .i64 li, .slice A n c, .slice B m e, .int .i64 ops, .int .i64 fu, .bool dn], .agg #[.int .i64 4, .int .i64 k, .int .i64 0, .slice none 0 0, .slice none 0 0]] w _
  by_cases q1 : k < 0
  · have g1 : decide (k < 0) = true := decide_eq_true q1
    have HO := Aside0.mk (show armD ⟨li, l, row, ops, fu, dn⟩ k = ⟨li, l, row, ops, (-1), dn⟩ from by unfold armD; congr 1; split <;> omega)
    clear q1
    go_enter Try.func22, Try.ntmps22
    go_wp2_with fail
    have h3 := heap3 w (.cells #[.int .i64 li, .slice A n c, .slice B m e, .int .i64 ops, .int .i64 (-1), .bool dn] 47) (.cells #[.int .i64 4, .int .i64 k, .int .i64 0, .slice none 0 0, .slice none 0 0] 54) (.cells #[.int .i64 li, .slice A n c, .slice B m e, .int .i64 ops, .int .i64 (-1), .bool dn] 47)
    have hD := dload h3.2.2.1
    refine bodyPost_ret (v := .tuple #[.agg #[.int .i64 li, .slice A n c, .slice B m e, .int .i64 ops, .int .i64 (-1), .bool dn], .slice none 0 0, .int .i64 0]) (by simp [results, Try.results22, asAddr, hD]) rfl ?_
    exact ⟨by rw [HO.out]; rfl, h3.2.2.2⟩
  · have g1 : decide (k < 0) = false := decide_eq_false q1
    have HO := Aside0.mk (show armD ⟨li, l, row, ops, fu, dn⟩ k = ⟨li, l, row, ops, k, dn⟩ from by unfold armD; congr 1; split <;> omega)
    clear q1
    go_enter Try.func22, Try.ntmps22
    go_wp2_with fail
    have h3 := heap3 w (.cells #[.int .i64 li, .slice A n c, .slice B m e, .int .i64 ops, .int .i64 k, .bool dn] 47) (.cells #[.int .i64 4, .int .i64 k, .int .i64 0, .slice none 0 0, .slice none 0 0] 54) (.cells #[.int .i64 li, .slice A n c, .slice B m e, .int .i64 ops, .int .i64 k, .bool dn] 47)
    have hD := dload h3.2.2.1
    refine bodyPost_ret (v := .tuple #[.agg #[.int .i64 li, .slice A n c, .slice B m e, .int .i64 ops, .int .i64 k, .bool dn], .slice none 0 0, .int .i64 0]) (by simp [results, Try.results22, asAddr, hD]) rfl ?_
    exact ⟨by rw [HO.out]; rfl, h3.2.2.2⟩

def fop (q : Int × List UInt8) : (Int × Int × List UInt8) := if q.2.length = 0 then (3, 0, []) else opl q
theorem rst_fop (s : Int × DV) (q : Int × List UInt8) : rst s (fop q) = stp s q := by
  unfold rst stp
  by_cases h : s.1 = 0
  · rw [if_pos h, if_pos h]
    unfold fop oneE oneD
    by_cases h2 : q.2.length = 0
    · rw [if_pos h2, if_pos h2, if_pos h2]
      rfl
    · rw [if_neg h2, if_neg h2, if_neg h2]
      show (doE s.2 (2, 4 * q.1, q.2), doD s.2 (2, 4 * q.1, q.2)) = _
      unfold doE doD
      rw [if_neg (by show ¬ (2 : Int) = 0; decide), if_pos rfl, if_neg (by show ¬ (2 : Int) = 0; decide), if_pos rfl, Int.mul_comm 4 q.1]
  · rw [if_neg h, if_neg h]
theorem fold_fop : ∀ (L : List (Int × List UInt8)) (s : Int × DV), (L.map fop).foldl rst s = L.foldl stp s
  | [], _ => rfl
  | q :: r, s => by rw [List.map_cons, List.foldl_cons, List.foldl_cons, rst_fop]; exact fold_fop r _
theorem map_opl (l : List (Int × List UInt8)) (h : ∀ q ∈ l, 0 < q.2.length) : l.map opl = l.map fop := List.map_congr_left fun q hq => by
  unfold fop
  rw [if_neg (by have := h q hq; omega)]
theorem ops_form {l : List (Int × List UInt8)} {m : MV} {fmt : Bool} (h : prgB l m = true) (hf : fmt = true → 2 ≤ m.tx) : opsL l m fmt = ((0 : Int), 4 * m.pg, ([] : List UInt8)) :: (if fmt = true then formatL l m else commitL l m).map fop := by
  have hm := right_of h
  have he := encM_len hm
  have hl := map_opl l (fun q hq => (prgB_mem h q hq).2.2.2)
  have f0 : ∀ i : Int, fop (i, []) = (3, 0, []) := fun i => rfl
  have f1 : ∀ (i : Int) (b : List UInt8), b.length = 256 → fop (i, b) = (2, 4 * i, b) := fun i b hb => by
    unfold fop
    rw [if_neg (by show ¬ b.length = 0; omega)]
    rfl
  unfold opsL
  cases fmt with
  | true =>
    have hw : (encM m.was).length = 256 := encM_len (m := m.was) (was_right hm (hf rfl))
    rw [if_pos rfl, if_pos rfl, hl]
    unfold formatL
    simp only [List.map_append, List.map_cons, List.map_nil, f0, f1 _ _ he, f1 _ _ hw, List.cons_append, List.nil_append, List.append_assoc]
  | false =>
    rw [if_neg (by decide), if_neg (by decide), hl]
    unfold commitL
    simp only [List.map_append, List.map_cons, List.map_nil, f0, f1 _ _ he, f1 _ _ (List.length_replicate (n := 256) (a := (0 : UInt8))), List.cons_append, List.nil_append, List.append_assoc]
theorem run_ops {d : DV} {l : List (Int × List UInt8)} {m : MV} {fmt : Bool} (h : prgB l m = true) (hf : fmt = true → 2 ≤ m.tx) : runS d (opsL l m fmt) = if fmt = true then formatS d l m else commitS d l m := by
  unfold runS
  rw [ops_form h hf, List.foldl_cons, fold_fop]
  have h0 : rst (0, d) ((0 : Int), 4 * m.pg, ([] : List UInt8)) = (growE d (m.pg * 4), growD d (m.pg * 4)) := by
    unfold rst
    rw [if_pos rfl]
    unfold doE doD
    rw [if_pos rfl, if_pos rfl, Int.mul_comm m.pg 4]
  rw [h0]
  cases fmt with
  | true =>
    rw [if_pos rfl, if_pos rfl]
    unfold formatS
    rw [if_pos ⟨h, by have := hf rfl; omega⟩]
    rfl
  | false =>
    rw [if_neg (by decide), if_neg (by decide)]
    unfold commitS
    rw [if_pos h]
    rfl
theorem RB.fold : ∀ (ls : List (Int × Int × List UInt8)) (s : Int × DV) (rl : Nat) (op : Int), RB s.2 rl op → RB (ls.foldl rst s).2 (rl + (ls.map fun q => q.2.2.length).sum) (op + ls.length) ∧ (ls.foldl rst s).2.limit = s.2.limit
  | [], s, rl, op, h => ⟨by simpa using h, rfl⟩
  | q :: r, s, rl, op, h => by
    have h1 : RB (rst s q).2 (rl + q.2.2.length) (op + 1) ∧ (rst s q).2.limit = s.2.limit := by
      unfold rst
      by_cases h0 : s.1 = 0
      · rw [if_pos h0]
        exact h.next q
      · rw [if_neg h0]
        exact ⟨⟨h.ok, h.lim, h.ab.up (by omega) (by omega)⟩, rfl⟩
    have h2 := RB.fold r (rst s q) _ _ h1.1
    rw [List.foldl_cons, List.map_cons, List.sum_cons, List.length_cons]
    refine ⟨⟨h2.1.ok, h2.1.lim, h2.1.ab.up (by omega) (by push_cast; omega)⟩, h2.2.trans h1.2⟩
theorem RB.run {d : DV} {rl : Nat} {op : Int} (h : RB d rl op) (ls : List (Int × Int × List UInt8)) : RB (runS d ls).2 (rl + (ls.map fun q => q.2.2.length).sum) (op + ls.length) ∧ (runS d ls).2.limit = d.limit := RB.fold ls (0, d) rl op h
theorem ops_sum {l : List (Int × List UInt8)} {m : MV} {fmt : Bool} (h : prgB l m = true) (hf : fmt = true → 2 ≤ m.tx) : ((opsL l m fmt).map fun q => q.2.2.length).sum = totB l + 512 ∧ (opsL l m fmt).length ≤ l.length + 5 := by
  have hm := right_of h
  have he := encM_len hm
  have hs : ((l.map opl).map fun q : (Int × Int × List UInt8) => q.2.2.length).sum = totB l := by
    rw [List.map_map]
    rfl
  unfold opsL
  cases fmt with
  | true =>
    have hw : (encM m.was).length = 256 := encM_len (m := m.was) (was_right hm (hf rfl))
    rw [if_pos rfl]
    simp only [List.map_append, List.sum_append, hs, List.length_append, List.length_map]
    simp [he, hw]
    omega
  | false =>
    rw [if_neg (by decide)]
    simp only [List.map_append, List.sum_append, hs, List.length_append, List.length_map]
    simp only [List.map_cons, List.map_nil, List.sum_cons, List.sum_nil, List.length_replicate, he, List.length_cons, List.length_nil]
    omega
set_option maxHeartbeats 8000000 in
set_option maxRecDepth 100000 in
theorem stands_h {w0 : World} {g : Nat} {R : List (Nat × Obj)} {d : DV} {W : World} (h : DH w0 g R d W) (A : Option Addr) (n c : Nat) (B : Option Addr) (m e : Nat) (hs : List (Int × Option Addr × Nat × Nat)) (hr : RM W A n c B m e hs d) (hn : n ≤ 100000000) :
    Calls Try.prog 27 #[.pointer (some ⟨g, 0, none⟩), .agg (rv d A n c B m e)] W fun e' w' => e' = .returned (.bool true) ∧ Below W.heap.size W w' := by
  have hln : n = nD d * 64 := by rw [← hr.bl.len]; exact h.ok.len
  have hml : m = d.row.length := by rw [← hr.hl]; exact hr.len
  obtain ⟨bx, hbx⟩ : ∃ b : Obj, Obj.cells #[.int .i64 d.limit, .slice A n c, .slice B m e, .int .i64 d.ops, .int .i64 d.fuse, .bool d.down] 47 = b := ⟨_, rfl⟩
  have hB0 := (Below.refl _ W).alloc (Nat.le_refl _) bx
  have H0 := Aside0.mk (And.intro (h.step hB0) (And.intro (hr.below hB0) (And.intro (heap_alloc_new W bx) hB0)))
  have HOK := Aside0.mk h.ok
  have HLN := Aside0.mk (And.intro hln hml)
  obtain ⟨sz, hsz⟩ : ∃ x, nD d = x := ⟨_, rfl⟩
  have HSZ := Aside0.mk hsz
  obtain ⟨rl, hrl⟩ : ∃ x, d.row.length = x := ⟨_, rfl⟩
  have HRL := Aside0.mk hrl
  have dv : (n : Int).tdiv 64 = (sz : Int) := by rw [div64, hln, hsz, show sz * 64 / 64 = sz by omega]
  have dw : IntKind.i64.wrap (sz : Int) = (sz : Int) := IntWalk.i64_in _ (by omega)
  have g1 : ((sz : Int) == (sz : Int)) = true := beq_self_eq_true _
  have g2 : (d.ops == d.ops) = true := beq_self_eq_true _
  have g3 : ((m : Int) == (m : Int)) = true := beq_self_eq_true _
  have g4 : (d.down == d.down) = true := beq_self_eq_true _
  obtain ⟨im, him⟩ : ∃ x, imD d = x := ⟨_, rfl⟩
  have HIM := Aside0.mk him
  have g5 : (im == im) = true := beq_self_eq_true _
  rw [hsz] at hln
  rw [hrl] at hml
  subst hml
  clear h hr hB0 hsz hrl him hln
  show Calls Try.prog 27 #[.pointer (some ⟨g, 0, none⟩), .agg #[.int .i64 d.limit, .slice A n c, .slice B m e, .int .i64 d.ops, .int .i64 d.fuse, .bool d.down]] W _
  go_enter Try.func27, Try.ntmps27
  go_upto_region 1 with fail
  obtain ⟨w0', hw0⟩ : ∃ X, W.alloc bx = X := ⟨_, rfl⟩
  obtain ⟨N, hN⟩ : ∃ X, W.heap.size = X := ⟨_, rfl⟩
  rw [hw0, hN] at H0
  rw [hw0, hN]
  have HBX := Aside0.mk hbx
  have hN' := Aside0.mk hN
  clear hw0 hN hbx
  have hS := Aside0.mk (show ∀ w' : World, w'.heap[N]? = some bx → (w'.cell? ⟨N, 0, none⟩ = some (.int .i64 d.limit) ∧ w'.cell? ⟨N, 1, none⟩ = some (.slice A n c) ∧ w'.cell? ⟨N, 2, none⟩ = some (.slice B m e) ∧ w'.cell? ⟨N, 3, none⟩ = some (.int .i64 d.ops) ∧ w'.cell? ⟨N, 4, none⟩ = some (.int .i64 d.fuse) ∧ w'.cell? ⟨N, 5, none⟩ = some (.bool d.down)) from fun w' hX => by rw [← HBX.out] at hX; exact row6_cells hX)
  have hbd : Below w0'.heap.size w0' w0'.drew := below_drew (Below.refl _ _)
  have H1 := Aside0.mk (And.intro (H0.out.1.step hbd) (And.intro (H0.out.2.1.below hbd) (And.intro ((hbd.block _ (Array.getElem?_eq_some_iff.1 H0.out.2.2.1).1).trans H0.out.2.2.1) (below_then H0.out.2.2.2 (by rw [← hN'.out]; exact H0.out.2.2.2.size) hbd))))
  obtain ⟨w1, hw1⟩ : ∃ X, w0'.drew = X := ⟨_, rfl⟩
  rw [hw1] at H1
  clear hbd
  have S1 := Aside0.mk (hS.out _ H1.out.2.2.1)
  refine wp_region_M (fun j => decide (j < 37)) (fun w' => (w'.cell? ⟨N, 0, none⟩ = some (.int .i64 d.limit) ∧ w'.cell? ⟨N, 1, none⟩ = some (.slice A n c) ∧ w'.cell? ⟨N, 2, none⟩ = some (.slice B m e) ∧ w'.cell? ⟨N, 3, none⟩ = some (.int .i64 d.ops) ∧ w'.cell? ⟨N, 4, none⟩ = some (.int .i64 d.fuse) ∧ w'.cell? ⟨N, 5, none⟩ = some (.bool d.down))) (by kernel_rfl) ?_
  rw [hw1]
  clear hw1
  refine wpAnyM_take (i := 0) (v := ?_) (by simp only [List.getElem?_toArray, List.getElem?_cons_succ, List.getElem?_cons_zero]; rfl) (by kernel_rfl) (by kernel_rfl) (by kernel_rfl) (by kernel_rfl) (by exact fun _ _ _ h => h) (Or.inl ⟨by rfl, ?_⟩) S1.out ?_
  rotate_left
  · (intro w' hSw; (try dsimp only at hSw); go_simp; try with_reducible rfl)
  try simp only [Act.put, List.setIfInBounds_toArray, List.set_cons_zero, List.set_cons_succ]
  refine wpAnyM_take (i := 2) (v := ?_) (by simp only [List.getElem?_toArray, List.getElem?_cons_succ, List.getElem?_cons_zero]; rfl) (by kernel_rfl) (by kernel_rfl) (by kernel_rfl) (by kernel_rfl) (by exact fun _ _ _ h => h) (Or.inl ⟨by rfl, ?_⟩) S1.out ?_
  rotate_left
  · (intro w' hSw; (try dsimp only at hSw); go_simp; try with_reducible rfl)
  try simp only [Act.put, List.setIfInBounds_toArray, List.set_cons_zero, List.set_cons_succ]
  refine wpAnyM_take (i := 3) (v := ?_) (by simp only [List.getElem?_toArray, List.getElem?_cons_succ, List.getElem?_cons_zero]; rfl) (by kernel_rfl) (by kernel_rfl) (by kernel_rfl) (by kernel_rfl) (by exact fun _ _ _ h => h) (Or.inl ⟨by rfl, ?_⟩) S1.out ?_
  rotate_left
  · (intro w' hSw; (try dsimp only at hSw); go_simp; try with_reducible rfl)
  try simp only [Act.put, List.setIfInBounds_toArray, List.set_cons_zero, List.set_cons_succ]
  refine wpAnyM_take (i := 4) (v := ?_) (by simp only [List.getElem?_toArray, List.getElem?_cons_succ, List.getElem?_cons_zero]; rfl) (by kernel_rfl) (by kernel_rfl) (by kernel_rfl) (by kernel_rfl) (by exact fun _ _ _ h => h) (Or.inl ⟨by rfl, ?_⟩) S1.out ?_
  rotate_left
  · (intro w' hSw; (try dsimp only at hSw); go_simp; try with_reducible rfl)
  try simp only [Act.put, List.setIfInBounds_toArray, List.set_cons_zero, List.set_cons_succ]
  refine wpAnyM_take (i := 5) (v := ?_) (by simp only [List.getElem?_toArray, List.getElem?_cons_succ, List.getElem?_cons_zero]; rfl) (by kernel_rfl) (by kernel_rfl) (by kernel_rfl) (by kernel_rfl) (by exact fun _ _ _ h => h) (Or.inl ⟨by rfl, ?_⟩) S1.out ?_
  rotate_left
  · (intro w' hSw; (try dsimp only at hSw); go_simp; try with_reducible rfl)
  try simp only [Act.put, List.setIfInBounds_toArray, List.set_cons_zero, List.set_cons_succ]
  refine wpAnyM_one (i := 1) (by kernel_rfl) (by simp only [List.getElem?_toArray, List.getElem?_cons_succ, List.getElem?_cons_zero]; rfl) ?_
  go_wp2_with (go_at_call 29; refine (size_h H1.out.1).mono ?_; rintro e9 w9 ⟨rfl, rfl⟩; rw [HSZ.out])
  refine ⟨S1.out, ?_⟩
  try simp only [Act.put, List.setIfInBounds_toArray, List.set_cons_zero, List.set_cons_succ]
  refine wpAnyM_take (i := 6) (v := ?_) (by simp only [List.getElem?_toArray, List.getElem?_cons_succ, List.getElem?_cons_zero]; rfl) (by kernel_rfl) (by kernel_rfl) (by kernel_rfl) (by kernel_rfl) (by exact fun _ _ _ h => h) (Or.inl ⟨by rfl, ?_⟩) S1.out ?_
  rotate_left
  · (intro w' hSw; (try dsimp only at hSw); go_simp; try with_reducible rfl)
  try simp only [Act.put, List.setIfInBounds_toArray, List.set_cons_zero, List.set_cons_succ]
  refine wpAnyM_take (i := 7) (v := ?_) (by simp only [List.getElem?_toArray, List.getElem?_cons_succ, List.getElem?_cons_zero]; rfl) (by kernel_rfl) (by kernel_rfl) (by kernel_rfl) (by kernel_rfl) (by exact fun _ _ _ h => h) (Or.inl ⟨by rfl, ?_⟩) S1.out ?_
  rotate_left
  · (intro w' hSw; (try dsimp only at hSw); go_simp; try with_reducible rfl)
  try simp only [Act.put, List.setIfInBounds_toArray, List.set_cons_zero, List.set_cons_succ]
  refine wpAnyM_take (i := 8) (v := ?_) (by simp only [List.getElem?_toArray, List.getElem?_cons_succ, List.getElem?_cons_zero]; rfl) (by kernel_rfl) (by kernel_rfl) (by kernel_rfl) (by kernel_rfl) (by exact fun _ _ _ h => h) (Or.inl ⟨by rfl, ?_⟩) S1.out ?_
  rotate_left
  · (intro w' hSw; (try dsimp only at hSw); go_simp; try with_reducible rfl)
  try simp only [Act.put, List.setIfInBounds_toArray, List.set_cons_zero, List.set_cons_succ]
  refine wpAnyM_take (i := 10) (v := ?_) (by simp only [List.getElem?_toArray, List.getElem?_cons_succ, List.getElem?_cons_zero]; rfl) (by kernel_rfl) (by kernel_rfl) (by kernel_rfl) (by kernel_rfl) (by exact fun _ _ _ h => h) (Or.inl ⟨by rfl, ?_⟩) S1.out ?_
  rotate_left
  · (intro w' hSw; (try dsimp only at hSw); go_simp; try with_reducible rfl)
  try simp only [Act.put, List.setIfInBounds_toArray, List.set_cons_zero, List.set_cons_succ]
  refine wpAnyM_take (i := 11) (v := ?_) (by simp only [List.getElem?_toArray, List.getElem?_cons_succ, List.getElem?_cons_zero]; rfl) (by kernel_rfl) (by kernel_rfl) (by kernel_rfl) (by kernel_rfl) (by exact fun _ _ _ h => h) (Or.inl ⟨by rfl, ?_⟩) S1.out ?_
  rotate_left
  · (intro w' hSw; (try dsimp only at hSw); go_simp; try with_reducible rfl)
  try simp only [Act.put, List.setIfInBounds_toArray, List.set_cons_zero, List.set_cons_succ]
  refine wpAnyM_one (i := 9) (by kernel_rfl) (by simp only [List.getElem?_toArray, List.getElem?_cons_succ, List.getElem?_cons_zero]; rfl) ?_
  go_wp2_with (go_at_call 32; refine (ops_h H1.out.1).mono ?_; rintro e9 w9 ⟨rfl, rfl⟩)
  refine ⟨S1.out, ?_⟩
  try simp only [Act.put, List.setIfInBounds_toArray, List.set_cons_zero, List.set_cons_succ]
  refine wpAnyM_take (i := 12) (v := ?_) (by simp only [List.getElem?_toArray, List.getElem?_cons_succ, List.getElem?_cons_zero]; rfl) (by kernel_rfl) (by kernel_rfl) (by kernel_rfl) (by kernel_rfl) (by exact fun _ _ _ h => h) (Or.inl ⟨by rfl, ?_⟩) S1.out ?_
  rotate_left
  · (intro w' hSw; (try dsimp only at hSw); go_simp; try with_reducible rfl)
  try simp only [Act.put, List.setIfInBounds_toArray, List.set_cons_zero, List.set_cons_succ]
  refine wpAnyM_take (i := 13) (v := ?_) (by simp only [List.getElem?_toArray, List.getElem?_cons_succ, List.getElem?_cons_zero]; rfl) (by kernel_rfl) (by kernel_rfl) (by kernel_rfl) (by kernel_rfl) (by exact fun _ _ _ h => h) (Or.inl ⟨by rfl, ?_⟩) S1.out ?_
  rotate_left
  · (intro w' hSw; (try dsimp only at hSw); go_simp; try with_reducible rfl)
  try simp only [Act.put, List.setIfInBounds_toArray, List.set_cons_zero, List.set_cons_succ]
  refine wpAnyM_take (i := 14) (v := ?_) (by simp only [List.getElem?_toArray, List.getElem?_cons_succ, List.getElem?_cons_zero]; rfl) (by kernel_rfl) (by kernel_rfl) (by kernel_rfl) (by kernel_rfl) (by exact fun _ _ _ h => h) (Or.inl ⟨by rfl, ?_⟩) S1.out ?_
  rotate_left
  · (intro w' hSw; (try dsimp only at hSw); go_simp; try with_reducible rfl)
  try simp only [Act.put, List.setIfInBounds_toArray, List.set_cons_zero, List.set_cons_succ]
  refine wpAnyM_take (i := 15) (v := ?_) (by simp only [List.getElem?_toArray, List.getElem?_cons_succ, List.getElem?_cons_zero]; rfl) (by kernel_rfl) (by kernel_rfl) (by kernel_rfl) (by kernel_rfl) (by exact fun _ _ _ h => h) (Or.inl ⟨by rfl, ?_⟩) S1.out ?_
  rotate_left
  · (intro w' hSw; (try dsimp only at hSw); go_simp; try with_reducible rfl)
  try simp only [Act.put, List.setIfInBounds_toArray, List.set_cons_zero, List.set_cons_succ]
  refine wpAnyM_take (i := 17) (v := ?_) (by simp only [List.getElem?_toArray, List.getElem?_cons_succ, List.getElem?_cons_zero]; rfl) (by kernel_rfl) (by kernel_rfl) (by kernel_rfl) (by kernel_rfl) (by exact fun _ _ _ h => h) (Or.inl ⟨by rfl, ?_⟩) S1.out ?_
  rotate_left
  · (intro w' hSw; (try dsimp only at hSw); go_simp; try with_reducible rfl)
  try simp only [Act.put, List.setIfInBounds_toArray, List.set_cons_zero, List.set_cons_succ]
  refine wpAnyM_take (i := 18) (v := ?_) (by simp only [List.getElem?_toArray, List.getElem?_cons_succ, List.getElem?_cons_zero]; rfl) (by kernel_rfl) (by kernel_rfl) (by kernel_rfl) (by kernel_rfl) (by exact fun _ _ _ h => h) (Or.inl ⟨by rfl, ?_⟩) S1.out ?_
  rotate_left
  · (intro w' hSw; (try dsimp only at hSw); go_simp; try with_reducible rfl)
  try simp only [Act.put, List.setIfInBounds_toArray, List.set_cons_zero, List.set_cons_succ]
  refine wpAnyM_take (i := 19) (v := ?_) (by simp only [List.getElem?_toArray, List.getElem?_cons_succ, List.getElem?_cons_zero]; rfl) (by kernel_rfl) (by kernel_rfl) (by kernel_rfl) (by kernel_rfl) (by exact fun _ _ _ h => h) (Or.inl ⟨by rfl, ?_⟩) S1.out ?_
  rotate_left
  · (intro w' hSw; (try dsimp only at hSw); go_simp; try with_reducible rfl)
  try simp only [Act.put, List.setIfInBounds_toArray, List.set_cons_zero, List.set_cons_succ]
  refine wpAnyM_one (i := 16) (by kernel_rfl) (by simp only [List.getElem?_toArray, List.getElem?_cons_succ, List.getElem?_cons_zero]; rfl) ?_
  go_wp2_with (go_at_call 33; refine (pending_h H1.out.1).mono ?_; rintro e9 w9 ⟨rfl, rfl⟩; rw [HRL.out])
  refine ⟨S1.out, ?_⟩
  try simp only [Act.put, List.setIfInBounds_toArray, List.set_cons_zero, List.set_cons_succ]
  refine wpAnyM_take (i := 20) (v := ?_) (by simp only [List.getElem?_toArray, List.getElem?_cons_succ, List.getElem?_cons_zero]; rfl) (by kernel_rfl) (by kernel_rfl) (by kernel_rfl) (by kernel_rfl) (by exact fun _ _ _ h => h) (Or.inl ⟨by rfl, ?_⟩) S1.out ?_
  rotate_left
  · (intro w' hSw; (try dsimp only at hSw); go_simp; try with_reducible rfl)
  try simp only [Act.put, List.setIfInBounds_toArray, List.set_cons_zero, List.set_cons_succ]
  refine wpAnyM_take (i := 21) (v := ?_) (by simp only [List.getElem?_toArray, List.getElem?_cons_succ, List.getElem?_cons_zero]; rfl) (by kernel_rfl) (by kernel_rfl) (by kernel_rfl) (by kernel_rfl) (by exact fun _ _ _ h => h) (Or.inl ⟨by rfl, ?_⟩) S1.out ?_
  rotate_left
  · (intro w' hSw; (try dsimp only at hSw); go_simp; try with_reducible rfl)
  try simp only [Act.put, List.setIfInBounds_toArray, List.set_cons_zero, List.set_cons_succ]
  refine wpAnyM_take (i := 22) (v := ?_) (by simp only [List.getElem?_toArray, List.getElem?_cons_succ, List.getElem?_cons_zero]; rfl) (by kernel_rfl) (by kernel_rfl) (by kernel_rfl) (by kernel_rfl) (by exact fun _ _ _ h => h) (Or.inl ⟨by rfl, ?_⟩) S1.out ?_
  rotate_left
  · (intro w' hSw; (try dsimp only at hSw); go_simp; try with_reducible rfl)
  try simp only [Act.put, List.setIfInBounds_toArray, List.set_cons_zero, List.set_cons_succ]
  refine wpAnyM_take (i := 23) (v := ?_) (by simp only [List.getElem?_toArray, List.getElem?_cons_succ, List.getElem?_cons_zero]; rfl) (by kernel_rfl) (by kernel_rfl) (by kernel_rfl) (by kernel_rfl) (by exact fun _ _ _ h => h) (Or.inl ⟨by rfl, ?_⟩) S1.out ?_
  rotate_left
  · (intro w' hSw; (try dsimp only at hSw); go_simp; try with_reducible rfl)
  try simp only [Act.put, List.setIfInBounds_toArray, List.set_cons_zero, List.set_cons_succ]
  refine wpAnyM_take (i := 25) (v := ?_) (by simp only [List.getElem?_toArray, List.getElem?_cons_succ, List.getElem?_cons_zero]; rfl) (by kernel_rfl) (by kernel_rfl) (by kernel_rfl) (by kernel_rfl) (by exact fun _ _ _ h => h) (Or.inl ⟨by rfl, ?_⟩) S1.out ?_
  rotate_left
  · (intro w' hSw; (try dsimp only at hSw); go_simp; try with_reducible rfl)
  try simp only [Act.put, List.setIfInBounds_toArray, List.set_cons_zero, List.set_cons_succ]
  refine wpAnyM_take (i := 26) (v := ?_) (by simp only [List.getElem?_toArray, List.getElem?_cons_succ, List.getElem?_cons_zero]; rfl) (by kernel_rfl) (by kernel_rfl) (by kernel_rfl) (by kernel_rfl) (by exact fun _ _ _ h => h) (Or.inl ⟨by rfl, ?_⟩) S1.out ?_
  rotate_left
  · (intro w' hSw; (try dsimp only at hSw); go_simp; try with_reducible rfl)
  try simp only [Act.put, List.setIfInBounds_toArray, List.set_cons_zero, List.set_cons_succ]
  refine wpAnyM_one (i := 24) (by kernel_rfl) (by simp only [List.getElem?_toArray, List.getElem?_cons_succ, List.getElem?_cons_zero]; rfl) ?_
  go_wp2_with (go_at_call 47; refine (down_h H1.out.1).mono ?_; rintro e9 w9 ⟨rfl, rfl⟩)
  refine ⟨S1.out, ?_⟩
  try simp only [Act.put, List.setIfInBounds_toArray, List.set_cons_zero, List.set_cons_succ]
  refine wpAnyM_take (i := 27) (v := ?_) (by simp only [List.getElem?_toArray, List.getElem?_cons_succ, List.getElem?_cons_zero]; rfl) (by kernel_rfl) (by kernel_rfl) (by kernel_rfl) (by kernel_rfl) (by exact fun _ _ _ h => h) (Or.inl ⟨by rfl, ?_⟩) S1.out ?_
  rotate_left
  · (intro w' hSw; (try dsimp only at hSw); go_simp; try with_reducible rfl)
  try simp only [Act.put, List.setIfInBounds_toArray, List.set_cons_zero, List.set_cons_succ]
  refine wpAnyM_take (i := 28) (v := ?_) (by simp only [List.getElem?_toArray, List.getElem?_cons_succ, List.getElem?_cons_zero]; rfl) (by kernel_rfl) (by kernel_rfl) (by kernel_rfl) (by kernel_rfl) (by exact fun _ _ _ h => h) (Or.inl ⟨by rfl, ?_⟩) S1.out ?_
  rotate_left
  · (intro w' hSw; (try dsimp only at hSw); go_simp; try with_reducible rfl)
  try simp only [Act.put, List.setIfInBounds_toArray, List.set_cons_zero, List.set_cons_succ]
  refine wpAnyM_take (i := 29) (v := ?_) (by simp only [List.getElem?_toArray, List.getElem?_cons_succ, List.getElem?_cons_zero]; rfl) (by kernel_rfl) (by kernel_rfl) (by kernel_rfl) (by kernel_rfl) (by exact fun _ _ _ h => h) (Or.inl ⟨by rfl, ?_⟩) S1.out ?_
  rotate_left
  · (intro w' hSw; (try dsimp only at hSw); go_simp; try with_reducible rfl)
  try simp only [Act.put, List.setIfInBounds_toArray, List.set_cons_zero, List.set_cons_succ]
  refine wpAnyM_take (i := 30) (v := ?_) (by simp only [List.getElem?_toArray, List.getElem?_cons_succ, List.getElem?_cons_zero]; rfl) (by kernel_rfl) (by kernel_rfl) (by kernel_rfl) (by kernel_rfl) (by exact fun _ _ _ h => h) (Or.inl ⟨by rfl, ?_⟩) S1.out ?_
  rotate_left
  · (intro w' hSw; (try dsimp only at hSw); go_simp; try with_reducible rfl)
  try simp only [Act.put, List.setIfInBounds_toArray, List.set_cons_zero, List.set_cons_succ]
  refine wpAnyM_take (i := 32) (v := ?_) (by simp only [List.getElem?_toArray, List.getElem?_cons_succ, List.getElem?_cons_zero]; rfl) (by kernel_rfl) (by kernel_rfl) (by kernel_rfl) (by kernel_rfl) (by exact fun _ _ _ h => h) (Or.inl ⟨by rfl, ?_⟩) S1.out ?_
  rotate_left
  · (intro w' hSw; (try dsimp only at hSw); go_simp; try with_reducible rfl)
  try simp only [Act.put, List.setIfInBounds_toArray, List.set_cons_zero, List.set_cons_succ]
  refine wpAnyM_one (i := 31) (by kernel_rfl) (by simp only [List.getElem?_toArray, List.getElem?_cons_succ, List.getElem?_cons_zero]; rfl) ?_
  go_wp2_with (go_at_call 17; refine (image_h H1.out.1).mono ?_; rintro e9 w2 ⟨A2, c2, rfl, hO, hB⟩; (have H2 := Aside0.mk (And.intro (show Bs w2 A2 (nD d * 64) c2 im from by rw [← HIM.out]; exact hO.bs) (And.intro (H1.out.2.1.below hB) (And.intro ((hB.block _ (Array.getElem?_eq_some_iff.1 H1.out.2.2.1).1).trans H1.out.2.2.1) (below_then H1.out.2.2.2 (by rw [← hN'.out]; exact H1.out.2.2.2.size) hB))))); clear hO hB)
  have S2 := Aside0.mk (hS.out _ H2.out.2.2.1)
  refine ⟨S2.out, ?_⟩
  try simp only [Act.put, List.setIfInBounds_toArray, List.set_cons_zero, List.set_cons_succ]
  have cI := rimage_any A n c B m e hs d w2 H2.out.2.1 HOK.out hn
  unfold rv at cI
  refine wpAnyM_one (i := 33) (by kernel_rfl) (by simp only [List.getElem?_toArray, List.getElem?_cons_succ, List.getElem?_cons_zero]; rfl) ?_
  go_wp2_with (go_at_call 54; refine cI.mono ?_; rintro e9 w3 ⟨A3, c3, rfl, hO, hB⟩; (have H3 := Aside0.mk (And.intro (H2.out.1.below hB) (And.intro (show Bs w3 A3 n c3 im from by rw [← HIM.out]; exact hO.bs) (And.intro ((hB.block _ (Array.getElem?_eq_some_iff.1 H2.out.2.2.1).1).trans H2.out.2.2.1) (below_then H2.out.2.2.2 (by rw [← hN'.out]; exact H2.out.2.2.2.size) hB))))); clear hO hB)
  have S3 := Aside0.mk (hS.out _ H3.out.2.2.1)
  refine ⟨S3.out, ?_⟩
  try simp only [Act.put, List.setIfInBounds_toArray, List.set_cons_zero, List.set_cons_succ]
  refine wpAnyM_one (i := 34) (by kernel_rfl) (by simp only [List.getElem?_toArray, List.getElem?_cons_succ, List.getElem?_cons_zero]; rfl) ?_
  go_wp2_with (go_at_call 37; refine (equal8_any _ _ _ im _ _ _ im w3 H3.out.1 H3.out.2.1).mono ?_; rintro e9 w9 ⟨rfl, rfl⟩; rw [g5])
  refine ⟨S3.out, ?_⟩
  try simp only [Act.put, List.setIfInBounds_toArray, List.set_cons_zero, List.set_cons_succ]
  refine wpAnyM_take (i := 35) (v := ?_) (by simp only [List.getElem?_toArray, List.getElem?_cons_succ, List.getElem?_cons_zero]; rfl) (by kernel_rfl) (by kernel_rfl) (by kernel_rfl) (by kernel_rfl) (by exact fun _ _ _ h => h) (Or.inl ⟨by rfl, ?_⟩) S3.out ?_
  rotate_left
  · (intro w' hSw; (try dsimp only at hSw); go_simp; try with_reducible rfl)
  try simp only [Act.put, List.setIfInBounds_toArray, List.set_cons_zero, List.set_cons_succ]
  refine wpAnyM_take (i := 36) (v := ?_) (by simp only [List.getElem?_toArray, List.getElem?_cons_succ, List.getElem?_cons_zero]; rfl) (by kernel_rfl) (by kernel_rfl) (by kernel_rfl) (by kernel_rfl) (by exact fun _ _ _ h => h) (Or.inl ⟨by rfl, ?_⟩) S3.out ?_
  rotate_left
  · (intro w' hSw; (try dsimp only at hSw); go_simp; try with_reducible rfl)
  try simp only [Act.put, List.setIfInBounds_toArray, List.set_cons_zero, List.set_cons_succ]
  refine wpAnyM_done (by kernel_rfl) ?_ _
  go_wp2_with fail
  go_ret
  rw [hN'.out]
  exact ⟨rfl, H3.out.2.2.2⟩
end Go.Proofs.Ythhalmjapiempaa
