/- The document's disk: Load; Do where it reads. -/
import Derived.Test.YthhalmjapiempaaS1
set_option linter.unusedVariables false
set_option linter.unusedSimpArgs false
namespace Go.Proofs.Ythhalmjapiempaa
open Go.RowKit

theorem row6_set {W : World} {g : Nat} {T : TypeId} {x0 x1 x2 x3 x4 x5 : Value} (a b c d e f : Value) (h : W.heap[g]? = some (.cells #[x0, x1, x2, x3, x4, x5] T)) :
    ((((((W.setCell ⟨g, 0, none⟩ a).setCell ⟨g, 1, none⟩ b).setCell ⟨g, 2, none⟩ c).setCell ⟨g, 3, none⟩ d).setCell ⟨g, 4, none⟩ e).setCell ⟨g, 5, none⟩ f).heap[g]? = some (.cells #[a, b, c, d, e, f] T) := by
  have h1 : (W.setCell ⟨g, 0, none⟩ a).heap[g]? = some (.cells #[a, x1, x2, x3, x4, x5] T) := heap_setCell_same W g 0 _ _ a h
  have h2 : (_root_.Go.World.setCell _ ⟨g, 1, none⟩ b).heap[g]? = some (.cells #[a, b, x2, x3, x4, x5] T) := heap_setCell_same _ g 1 _ _ b h1
  have h3 : (_root_.Go.World.setCell _ ⟨g, 2, none⟩ c).heap[g]? = some (.cells #[a, b, c, x3, x4, x5] T) := heap_setCell_same _ g 2 _ _ c h2
  have h4 : (_root_.Go.World.setCell _ ⟨g, 3, none⟩ d).heap[g]? = some (.cells #[a, b, c, d, x4, x5] T) := heap_setCell_same _ g 3 _ _ d h3
  have h5 : (_root_.Go.World.setCell _ ⟨g, 4, none⟩ e).heap[g]? = some (.cells #[a, b, c, d, e, x5] T) := heap_setCell_same _ g 4 _ _ e h4
  exact heap_setCell_same _ g 5 _ _ f h5
theorem only_set6 {W : World} {g : Nat} (a b c d e f : Value) : OnlyB g W ((((((W.setCell ⟨g, 0, none⟩ a).setCell ⟨g, 1, none⟩ b).setCell ⟨g, 2, none⟩ c).setCell ⟨g, 3, none⟩ d).setCell ⟨g, 4, none⟩ e).setCell ⟨g, 5, none⟩ f) :=
  ((((((OnlyB.refl g W).set 0 a).set 1 b).set 2 c).set 3 d).set 4 e).set 5 f
theorem below_only {b g : Nat} {W X Y : World} (h : Below b W X) (ho : OnlyB g X Y) (hg : b ≤ g) (hb : b ≤ X.heap.size) : Below b W Y :=
  ⟨ho.os.trans h.os, ho.tape.trans h.tape, ho.output.trans h.output, Nat.le_trans h.size ho.size, fun k hk => (ho.block k (by omega) (by omega)).trans (h.block k hk)⟩
theorem Bs.only6 {W X : World} {g : Nat} {A : Option Addr} {n c : Nat} {xs : List UInt8} (h : Bs W A n c xs) (ho : OnlyB g W X) (hg : 0 < n → ∀ a, A = some a → a.block ≠ g) : Bs X A n c xs :=
  h.blk fun a e h0 => ho.block _ (h.lt a e h0) (hg h0 a e)
theorem Rc.nil6 (w : World) : Rc w 2 none 0 0 (wv []) := ⟨rfl, Nat.le_refl _, by omega, by omega, wv_one _, fun h => absurd h (by omega)⟩
theorem loadL_pad (xs : List UInt8) (p : Nat) : ∀ n, n * 64 ≤ xs.length + p → loadL xs n = loadL (xs ++ List.replicate p 0) n
  | 0, _ => rfl
  | n + 1, h => by
    rw [loadL, loadL, loadL_pad xs p n (by omega)]
    congr 1
    unfold sgL
    apply List.ext_getElem?
    intro i
    rcases Nat.lt_or_ge i 64 with q | q
    · have key : ∀ l : List UInt8, ((l.drop (64 * n)).take 64 ++ List.replicate (64 - ((l.drop (64 * n)).take 64).length) 0)[i]? = some (l.getD (64 * n + i) 0) := by
        intro l
        rw [List.getD_eq_getElem?_getD]
        rcases Nat.lt_or_ge (64 * n + i) l.length with hl | hl
        · rw [List.getElem?_append_left (by rw [List.length_take, List.length_drop]; omega), cut_at, if_pos q, List.getElem?_eq_getElem hl]
          rfl
        · rw [List.getElem?_append_right (by rw [List.length_take, List.length_drop]; omega), List.getElem?_replicate_of_lt (by rw [List.length_take, List.length_drop]; omega), List.getElem?_eq_none hl]
          rfl
      rw [key, key]
      congr 1
      simp only [List.getD_eq_getElem?_getD]
      rcases Nat.lt_or_ge (64 * n + i) xs.length with hl | hl
      · rw [List.getElem?_append_left hl]
      · rw [List.getElem?_append_right hl, List.getElem?_eq_none hl, List.getElem?_replicate_of_lt (by omega)]
        rfl
    · rw [List.getElem?_eq_none (by rw [List.length_append, List.length_take, List.length_drop, List.length_replicate]; omega), List.getElem?_eq_none (by rw [List.length_append, List.length_take, List.length_drop, List.length_append, List.length_replicate, List.length_replicate]; omega)]
/-- The image that is loaded. -/
theorem load_cut (xs : List UInt8) (p : Nat) (L : Int) (h0 : 0 ≤ L) (hp : (xs.length + p) % 64 = 0) (hq : p < 64) :
    (if 64 * L < ((xs.length + p : Nat) : Int) then (xs ++ List.replicate p 0).take (64 * L).toNat else xs ++ List.replicate p 0) = loadL xs (cntL xs.length L) := by
  have hl : (xs ++ List.replicate p 0).length = xs.length + p := by rw [List.length_append, List.length_replicate]
  have hc : (xs.length + 63) / 64 = (xs.length + p) / 64 := by omega
  split
  · have e : cntL xs.length L = L.toNat := by unfold cntL; omega
    rw [e, loadL_pad xs p _ (by omega), loadL_all _ _ (by rw [hl]; omega), show (64 * L).toNat = L.toNat * 64 by omega]
  · have e : cntL xs.length L = (xs.length + p) / 64 := by unfold cntL; omega
    rw [e, loadL_pad xs p _ (by omega), loadL_all _ _ (by rw [hl]; omega), List.take_of_length_le (by rw [hl]; omega)]
def pad64 (n : Nat) : Nat := (64 - n % 64) % 64
set_option maxHeartbeats 8000000 in
set_option maxRecDepth 100000 in
theorem rload_any (K : Option Addr) (kn kc : Nat) (xs : List UInt8) (limit : Int) (w : World) (hb : Bs w K kn kc xs) (hkn : kn ≤ 1000000) :
    Calls Try.prog 20 #[.slice K kn kc, .int .i64 limit] w fun e w' => ∃ A1 n1 c1, e = .returned (.agg (rv (lodD xs limit) A1 n1 c1 none 0 0)) ∧ RM w' A1 n1 c1 none 0 0 [] (lodD xs limit) ∧ Below w.heap.size w w' := by
  have hkl := hb.len
  obtain ⟨L, hL⟩ : ∃ x, limI limit = x := ⟨_, rfl⟩
  have hL0 := limI_le limit
  rw [hL] at hL0
  have HL := Aside0.mk hL
  obtain ⟨p, hp⟩ : ∃ x, pad64 kn = x := ⟨_, rfl⟩
  have hp2 : (kn + p) % 64 = 0 ∧ p < 64 := by rw [← hp]; unfold pad64; omega
  have HP := Aside0.mk hp2
  have HK := Aside0.mk hkl
  have hB0 := (Below.refl _ w).alloc (Nat.le_refl _) (.cells #[.int .i64 0, .slice none 0 0, .slice none 0 0, .int .i64 0, .int .i64 0, .bool false] 47)
  have H0 := Aside0.mk (And.intro (hb.below hB0) (And.intro (heap_alloc_new w (.cells #[.int .i64 0, .slice none 0 0, .slice none 0 0, .int .i64 0, .int .i64 0, .bool false] 47)) hB0))
  clear hb hkl hL hp hp2 hB0
  go_enter Try.func20, Try.ntmps20
  go_upto_region 1 with fail
  obtain ⟨w0, hw0⟩ : ∃ X, w.alloc (.cells #[.int .i64 0, .slice none 0 0, .slice none 0 0, .int .i64 0, .int .i64 0, .bool false] 47) = X := ⟨_, rfl⟩
  obtain ⟨N, hN⟩ : ∃ X, w.heap.size = X := ⟨_, rfl⟩
  rw [hw0, hN] at H0
  rw [hw0, hN]
  have hN' := Aside0.mk hN
  clear hw0 hN
  go_upto_region 2 with (go_at_call 51; refine (rnew_any limit w0).mono ?_; rintro e w1 ⟨rfl, hB⟩; rw [HL.out]; (have H1 := Aside0.mk (And.intro (H0.out.1.below hB) (And.intro ((hB.block _ (Array.getElem?_eq_some_iff.1 H0.out.2.1).1).trans H0.out.2.1) (below_then H0.out.2.2 (by rw [← hN'.out]; exact H0.out.2.2.size) hB)))); clear hB)
  have hB2 := (Below.refl _ w1).alloc (Nat.le_refl _) (.cells #[.int .i64 L, .slice none 0 0, .slice none 0 0, .int .i64 0, .int .i64 (-1), .bool false] 47)
  have H2 := Aside0.mk (And.intro (H1.out.1.below hB2) (And.intro ((hB2.block _ (Array.getElem?_eq_some_iff.1 H1.out.2.1).1).trans H1.out.2.1) (And.intro (below_then H1.out.2.2 (by rw [← hN'.out]; exact H1.out.2.2.size) hB2) (And.intro (heap_alloc_new w1 (.cells #[.int .i64 L, .slice none 0 0, .slice none 0 0, .int .i64 0, .int .i64 (-1), .bool false] 47)) (Array.getElem?_eq_some_iff.1 H1.out.2.1).1))))
  obtain ⟨w2, hw2⟩ : ∃ X, w1.alloc (.cells #[.int .i64 L, .slice none 0 0, .slice none 0 0, .int .i64 0, .int .i64 (-1), .bool false] 47) = X := ⟨_, rfl⟩
  obtain ⟨M, hM⟩ : ∃ X, w1.heap.size = X := ⟨_, rfl⟩
  rw [hw2, hM] at H2
  rw [hw2, hM]
  clear hw2 hM hB2
  have HW := Aside0.mk (Ow.lit0 w2 w2.heap.size w2.heap.size rfl (Nat.le_refl _))
  go_upto_region 3 with (at_builtin; refine wpl_a8 (w0 := w2) w2.heap.size rfl (.tmp 9) (.tmp 10) rfl _ 0 0 [] K kn kc xs kn _ rfl rfl HW.out (H2.out.1.alloc _) ((Below.refl _ _).alloc (Nat.le_refl _) _) (by simp) (by omega) (by omega) rfl ?_; clear HW; intro A3 c3 w3 hO3 hB3)
  go_loopg [6] p (fun gk v6 wr => ∃ (j : Nat) (A6 : Option Addr) (c6 nn : Nat), Aside (gk + j = p) ∧ v6 = .slice A6 nn c6 ∧ Aside0 (nn = kn + j ∧ Ow wr w2.heap.size A6 nn c6 (xs ++ List.replicate j 0) ∧ Below w2.heap.size w2 wr))
  case atStart => exact ⟨0, A3, c3, kn, rfl, rfl, ⟨rfl, by rw [List.replicate_zero, List.append_nil]; exact hO3.out, hB3.out⟩⟩
  case round =>
    obtain ⟨j, A6, c6, nn, hk, rfl, hI⟩ := hrel
    clear hO3 hB3
    have hjp : j ≤ p := by have := hk.out; omega
    rcases Nat.lt_or_ge j p with hlt | hge
    · obtain ⟨r, hr⟩ : ∃ r : Int, (nn : Int) % 64 = r := ⟨_, rfl⟩
      have gr : (r != 0) = true := bne_iff_ne.2 (by have := HP.out; have := hI.out.1; omega)
      have HLt := Aside0.mk (Bs.lit wr wr.heap.size rfl #[.int .u8 0] 5 (0, 0) 1 1 [0] rfl rfl (Nat.le_refl _) (by omega) (by omega))
      have HA := Aside0.mk (And.intro (hI.out.2.1.alloc (.cells #[.int .u8 0] 5)) (below_alloc hI.out.2.2 hI.out.2.2.size (.cells #[.int .u8 0] 5)))
      have HZ := Aside0.mk (show (xs ++ List.replicate j 0) ++ [0] = xs ++ List.replicate (j + 1) (0 : UInt8) by rw [List.append_assoc, List.replicate_succ'])
      have HN := Aside0.mk (show nn ≤ 1000100 by have := hI.out.1; have := HP.out; omega)
      go_wp2_with (at_builtin; (refine wpl_a8 (w0 := w2) w2.heap.size rfl _ _ rfl A6 nn c6 (xs ++ List.replicate j 0) _ 1 1 [0] (nn + 1) (xs ++ List.replicate (j + 1) 0) rfl rfl HA.out.1 HLt.out HA.out.2 (by have := hI.out.2.2.size; first | (simp; done) | (simp; omega)) rfl (by have := HN.out; omega) HZ.out ?_); intro A8 c8 w8 hO8 hB8)
      go_roundg (p - (j + 1))
      case measure => have := hk.out; omega
      case rel => exact ⟨j + 1, A8, c8, nn + 1, by have := hk.out; exact (show p - (j + 1) + (j + 1) = p by omega), rfl, ⟨by have := hI.out.1; omega, hO8.out, hB8.out⟩⟩
    · obtain rfl : p = j := by omega
      have hr : (nn : Int) % 64 = 0 := by have := HP.out; have := hI.out.1; omega
      have hcut := load_cut xs p L hL0.1 (by rw [HK.out]; exact HP.out.1) HP.out.2
      rw [HK.out, ← hI.out.1] at hcut
      have hrM := (hI.out.2.2.block _ (Array.getElem?_eq_some_iff.1 H2.out.2.2.2.1).1).trans H2.out.2.2.2.1
      have hrN := (hI.out.2.2.block _ (Array.getElem?_eq_some_iff.1 H2.out.2.1).1).trans H2.out.2.1
      have HWR := Aside0.mk (And.intro hrM (And.intro hrN (And.intro hI.out.2.1 hI.out.2.2)))
      obtain ⟨x0, x1, x2, x3, x4, x5⟩ := row6_cells hrM
      have w1' : IntKind.i64.wrap (64 * L) = 64 * L := IntWalk.i64_in _ (by omega)
      have fin : ∀ (A1 : Option Addr) (n1 c1 : Nat), Ow wr w2.heap.size A1 n1 c1 (loadL xs (cntL kn L)) ∨ (Bs wr A1 n1 c1 (loadL xs (cntL kn L)) ∧ (0 < n1 → ∀ a, A1 = some a → w2.heap.size ≤ a.block)) → True := fun _ _ _ _ => trivial
      clear fin hrM hrN
      have hBl : 0 < nn → ∀ a, A6 = some a → w2.heap.size ≤ a.block := fun h0 a e => by
        obtain ⟨g, e2, hg, _⟩ := hI.out.2.1.head h0
        rw [e2] at e
        injection e with e
        rw [← e]
        exact hg
      have HBL := Aside0.mk hBl
      clear hBl
      by_cases qc : 64 * L < (nn : Int)
      · have gc : decide (64 * L < (nn : Int)) = true := decide_eq_true qc
        rw [if_pos qc] at hcut
        have hcap := hI.out.2.1.bs.le
        have hccap := hI.out.2.1.bs.cap
        have t1 : ∀ W : World, (Instr.slice 22 (.slice A6 nn c6) none (some (.int .i64 (64 * L))) none).run Try.prog W = .ok (.slice A6 (64 * L).toNat c6) W := fun W => sl8_h W A6 nn c6 .i64 (64 * L) (by omega) (by omega)
        have hbs := hI.out.2.1.bs.take (64 * L).toNat (by omega)
        rw [hcut] at hbs
        obtain ⟨n1, hn1⟩ : ∃ x, (64 * L).toNat = x := ⟨_, rfl⟩
        rw [hn1] at t1 hbs
        have HBS := Aside0.mk hbs
        have HN1 := Aside0.mk (show n1 ≤ nn by omega)
        clear hbs hcut hcap hccap hn1 qc
        go_upto_region 7 with fail
        have yM := fun j => Go.Joins.unfrozen_of_block HWR.out.1 j
        go_upto_region 8 with fail
        have hrM := heap_setCell_same wr M 1 _ _ (.slice A6 n1 c6) HWR.out.1
        have hoM := (OnlyB.refl M wr).set 1 (.slice A6 n1 c6)
        have hNM : N ≠ M := by have := (Array.getElem?_eq_some_iff.1 H1.out.2.1).1; have := H2.out.2.2.2.2; omega
        have hrN := (hoM.block _ (Array.getElem?_eq_some_iff.1 HWR.out.2.1).1 hNM).trans HWR.out.2.1
        have hMl := (Array.getElem?_eq_some_iff.1 H2.out.2.2.2.1).1
        have hb8 := HBS.out.only6 hoM (fun h0 a e => by have := HBL.out (by have := HN1.out; omega) a e; omega)
        have hB8 := below_only (below_then H2.out.2.2.1 (by rw [← hN'.out]; exact H2.out.2.2.1.size) HWR.out.2.2.2) hoM (Nat.le_of_lt H2.out.2.2.2.2) (by rw [← hN'.out]; exact (below_then H2.out.2.2.1 (by rw [← hN'.out]; exact H2.out.2.2.1.size) HWR.out.2.2.2).size)
        have H8 := Aside0.mk (And.intro hrM (And.intro hrN (And.intro hb8 hB8)))
        obtain ⟨w8, hw8⟩ : ∃ X, wr.setCell ⟨M, 1, none⟩ (.slice A6 n1 c6) = X := ⟨_, rfl⟩
        rw [hw8] at H8 ⊢
        clear hw8 hrM hoM hrN hb8 hB8 hMl hNM yM x0 x1 x2 x3 x4 x5
        obtain ⟨x0, x1, x2, x3, x4, x5⟩ := row6_cells H8.out.1
        obtain ⟨z0, z1, z2, z3, z4, z5⟩ := row6_cells H8.out.2.1
        have yN := fun j => Go.Joins.unfrozen_of_block H8.out.2.1 j
        have HD := Aside0.mk (dload (row6_set (.int .i64 L) (.slice A6 n1 c6) (.slice none 0 0) (.int .i64 0) (.int .i64 (-1)) (.bool false) H8.out.2.1))
        go_wp2_with fail
        have hD := HD.out
        refine bodyPost_ret (v := .agg #[.int .i64 L, .slice A6 n1 c6, .slice none 0 0, .int .i64 0, .int .i64 (-1), .bool false]) (by simp [results, Try.results20, asAddr, hD]) rfl ?_
        have hl : (lodD xs limit).l = loadL xs (cntL kn L) := by
          show loadL xs (cntL xs.length (limI limit)) = _
          rw [HL.out, HK.out]
        have hNl := (Array.getElem?_eq_some_iff.1 H0.out.2.1).1
        have hNl2 : N < w2.heap.size := (Array.getElem?_eq_some_iff.1 H2.out.2.1).1
        refine ⟨A6, n1, c6, ?_, ⟨?_, Rc.nil6 _, rfl, rfl, fun j p h => by cases h⟩, ?_⟩
        · show _ = Ending.returned (.agg #[.int .i64 (limI limit), .slice A6 n1 c6, .slice none 0 0, .int .i64 0, .int .i64 (-1), .bool false])
          rw [HL.out]
        · rw [hl]
          exact H8.out.2.2.1.only6 (only_set6 _ _ _ _ _ _) (fun h0 a e => by have := HBL.out (by have := HN1.out; omega) a e; omega)
        · rw [hN'.out]
          exact below_only H8.out.2.2.2 (only_set6 _ _ _ _ _ _) (Nat.le_refl _) (by rw [← hN'.out]; exact H8.out.2.2.2.size)
      · have gc : decide (64 * L < (nn : Int)) = false := decide_eq_false qc
        rw [if_neg qc] at hcut
        have hbs := hI.out.2.1.bs
        rw [hcut] at hbs
        have HBS := Aside0.mk hbs
        have HN1 := Aside0.mk (Nat.le_refl nn)
        clear hbs hcut qc
        go_upto_region 7 with fail
        have yM := fun j => Go.Joins.unfrozen_of_block HWR.out.1 j
        go_upto_region 8 with fail
        have hrM := heap_setCell_same wr M 1 _ _ (.slice A6 nn c6) HWR.out.1
        have hoM := (OnlyB.refl M wr).set 1 (.slice A6 nn c6)
        have hNM : N ≠ M := by have := (Array.getElem?_eq_some_iff.1 H1.out.2.1).1; have := H2.out.2.2.2.2; omega
        have hrN := (hoM.block _ (Array.getElem?_eq_some_iff.1 HWR.out.2.1).1 hNM).trans HWR.out.2.1
        have hMl := (Array.getElem?_eq_some_iff.1 H2.out.2.2.2.1).1
        have hb8 := HBS.out.only6 hoM (fun h0 a e => by have := HBL.out (by have := HN1.out; omega) a e; omega)
        have hB8 := below_only (below_then H2.out.2.2.1 (by rw [← hN'.out]; exact H2.out.2.2.1.size) HWR.out.2.2.2) hoM (Nat.le_of_lt H2.out.2.2.2.2) (by rw [← hN'.out]; exact (below_then H2.out.2.2.1 (by rw [← hN'.out]; exact H2.out.2.2.1.size) HWR.out.2.2.2).size)
        have H8 := Aside0.mk (And.intro hrM (And.intro hrN (And.intro hb8 hB8)))
        obtain ⟨w8, hw8⟩ : ∃ X, wr.setCell ⟨M, 1, none⟩ (.slice A6 nn c6) = X := ⟨_, rfl⟩
        rw [hw8] at H8 ⊢
        clear hw8 hrM hoM hrN hb8 hB8 hMl hNM yM x0 x1 x2 x3 x4 x5
        obtain ⟨x0, x1, x2, x3, x4, x5⟩ := row6_cells H8.out.1
        obtain ⟨z0, z1, z2, z3, z4, z5⟩ := row6_cells H8.out.2.1
        have yN := fun j => Go.Joins.unfrozen_of_block H8.out.2.1 j
        have HD := Aside0.mk (dload (row6_set (.int .i64 L) (.slice A6 nn c6) (.slice none 0 0) (.int .i64 0) (.int .i64 (-1)) (.bool false) H8.out.2.1))
        go_wp2_with fail
        have hD := HD.out
        refine bodyPost_ret (v := .agg #[.int .i64 L, .slice A6 nn c6, .slice none 0 0, .int .i64 0, .int .i64 (-1), .bool false]) (by simp [results, Try.results20, asAddr, hD]) rfl ?_
        have hl : (lodD xs limit).l = loadL xs (cntL kn L) := by
          show loadL xs (cntL xs.length (limI limit)) = _
          rw [HL.out, HK.out]
        have hNl := (Array.getElem?_eq_some_iff.1 H0.out.2.1).1
        have hNl2 : N < w2.heap.size := (Array.getElem?_eq_some_iff.1 H2.out.2.1).1
        refine ⟨A6, nn, c6, ?_, ⟨?_, Rc.nil6 _, rfl, rfl, fun j p h => by cases h⟩, ?_⟩
        · show _ = Ending.returned (.agg #[.int .i64 (limI limit), .slice A6 nn c6, .slice none 0 0, .int .i64 0, .int .i64 (-1), .bool false])
          rw [HL.out]
        · rw [hl]
          exact H8.out.2.2.1.only6 (only_set6 _ _ _ _ _ _) (fun h0 a e => by have := HBL.out (by have := HN1.out; omega) a e; omega)
        · rw [hN'.out]
          exact below_only H8.out.2.2.2 (only_set6 _ _ _ _ _ _) (Nat.le_refl _) (by rw [← hN'.out]; exact H8.out.2.2.2.size)
end Go.Proofs.Ythhalmjapiempaa
