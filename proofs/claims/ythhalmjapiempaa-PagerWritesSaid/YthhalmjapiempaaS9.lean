/- The document's disk: write. -/
import Derived.Test.YthhalmjapiempaaS8
set_option linter.unusedVariables false
set_option linter.unusedSimpArgs false
namespace Go.Proofs.Ythhalmjapiempaa
open Go.RowKit

/-- How its write ends. -/
def RWr (d : DV) (err : Int) (w : World) (e' : Ending) (w' : World) : Prop := ∃ A n c B m e hs, e' = .returned (.tuple #[.agg (rv d A n c B m e), .int .i64 err]) ∧ RM w' A n c B m e hs d ∧ Below w.heap.size w w'
/-- Headers that hold a row. -/
structure EQ (W : World) (hs : List (Int × Option Addr × Nat × Nat)) (row : List (Nat × List UInt8)) : Prop where
  len : hs.length = row.length
  each : ∀ (j : Nat) (p : Int × Option Addr × Nat × Nat), hs[j]? = some p → ∃ q : Nat × List UInt8, row[j]? = some q ∧ p.1 = (q.1 : Int) ∧ p.2.2.1 = 64 ∧ Bs W p.2.1 p.2.2.1 p.2.2.2 q.2
theorem EQ.nil (W : World) : EQ W [] [] := ⟨rfl, fun j p h => by simp at h⟩
theorem EQ.below {W W1 : World} {hs : List (Int × Option Addr × Nat × Nat)} {row : List (Nat × List UInt8)} (h : EQ W hs row) (hB : Below W.heap.size W W1) : EQ W1 hs row :=
  ⟨h.len, fun j p hj => by obtain ⟨q, a, b, c, f⟩ := h.each j p hj; exact ⟨q, a, b, c, f.below hB⟩⟩
theorem EQ.append {W : World} {hs ks : List (Int × Option Addr × Nat × Nat)} {row more : List (Nat × List UInt8)} (h : EQ W hs row) (k : EQ W ks more) : EQ W (hs ++ ks) (row ++ more) :=
  ⟨by rw [List.length_append, List.length_append, h.len, k.len], fun j p hj => by
    rcases Nat.lt_or_ge j hs.length with q | q
    · rw [List.getElem?_append_left q] at hj
      obtain ⟨x, a, b⟩ := h.each j p hj
      exact ⟨x, by rw [List.getElem?_append_left (by rw [← h.len]; exact q)]; exact a, b⟩
    · rw [List.getElem?_append_right q] at hj
      obtain ⟨x, a, b⟩ := k.each _ p hj
      exact ⟨x, by rw [List.getElem?_append_right (by rw [← h.len]; exact q), ← h.len]; exact a, b⟩⟩
theorem EQ.one {W : World} {p : Int × Option Addr × Nat × Nat} {q : Nat × List UInt8} (a : p.1 = (q.1 : Int)) (b : p.2.2.1 = 64) (c : Bs W p.2.1 p.2.2.1 p.2.2.2 q.2) : EQ W [p] [q] :=
  ⟨rfl, fun j p' h => by
    cases j with
    | zero => simp at h; subst h; exact ⟨q, rfl, a, b, c⟩
    | succ j => simp at h⟩
theorem RM.eq {W : World} {A : Option Addr} {n c : Nat} {B : Option Addr} {m e : Nat} {hs : List (Int × Option Addr × Nat × Nat)} {d : DV} (h : RM W A n c B m e hs d) : EQ W hs d.row := ⟨h.len, h.each⟩
theorem infoR : (Try.prog.info? 104).map (fun i => (i.zero, i.size, i.bytes)) = some (some zW, 2, 32) := by kernel_rfl
theorem oc_litW {W : World} (base : Nat) (hb : base ≤ W.heap.size) (hs : List (Int × Option Addr × Nat × Nat)) (n : Nat) (hn : hs.length = n) (hl : n ≤ 1000000000) (C : Array Value) (hC : C = (wv hs).toArray) : Oc (W.alloc (.cells C 104)) base 104 2 (some ⟨W.heap.size, 0, none⟩) n n (wv hs) := by
  subst hC
  refine ⟨?_, wv_one hs, hl⟩
  have := World.ownsRow_lit (base := base) (e := 104) (size := 2) W (wv hs).toArray n hb (by simp [maxLen]; omega) (by simp [wv_len, hn])
  simpa using this
theorem Rc.only6 {W X : World} {g k : Nat} {A : Option Addr} {n c : Nat} {xs : List Value} (h : Rc W k A n c xs) (ho : OnlyB g W X) (hg : 0 < n → ∀ a, A = some a → a.block ≠ g) : Rc X k A n c xs :=
  ⟨h.len, h.le, h.cap, h.lim, h.one, fun h0 => by
    obtain ⟨ad, e, hc⟩ := h.cells h0
    refine ⟨ad, e, fun j u hj => ?_⟩
    have h1 := hc j u hj
    exact (World.cell?_of_block (ho.block _ (World.block_lt_of_cell? W _ h1) (by rw [add_block]; exact hg h0 ad e))).trans h1⟩
theorem EQ.only {W X : World} {g : Nat} {hs : List (Int × Option Addr × Nat × Nat)} {row : List (Nat × List UInt8)} (h : EQ W hs row) (ho : OnlyB g W X) (hg : ∀ p ∈ hs, ∀ a, p.2.1 = some a → a.block ≠ g) : EQ X hs row :=
  ⟨h.len, fun j p hj => by obtain ⟨q, a, b, c, f⟩ := h.each j p hj; exact ⟨q, a, b, c, f.only6 ho (fun _ a e => hg p (List.mem_of_getElem? hj) a e)⟩⟩
/-- The cells of an op's box that are read. -/
def SW9 (N1 : Nat) (at_ : Int) (K : Option Addr) (kn kc : Nat) (w' : World) : Prop := w'.cell? ⟨N1, 1, none⟩ = some (.int .i64 at_) ∧ w'.cell? ⟨N1, 3, none⟩ = some (.slice K kn kc)

set_option maxHeartbeats 16000000 in
set_option maxRecDepth 100000 in
theorem rwrite_any (A : Option Addr) (n c : Nat) (B : Option Addr) (m e : Nat) (hs : List (Int × Option Addr × Nat × Nat)) (d : DV) (at_ : Int) (K : Option Addr) (kn kc : Nat) (b : List UInt8) (w : World) (h : RM w A n c B m e hs d) (ok : d.ok (nD d)) (hn : n ≤ 100000000) (hf : d.fuse ≤ 9223372036854775807) (ho : 0 ≤ d.ops ∧ d.ops ≤ 1000000) (hdn : d.down = false) (hb : Bs w K kn kc b) (hkn : d.row.length + kn ≤ 1000000) (hat : -1000000000 ≤ at_ ∧ at_ ≤ 1000000000) :
    Calls Try.prog 55 #[.agg (rv d A n c B m e), .agg #[.int .i64 2, .int .i64 at_, .int .i64 0, .slice K kn kc, .slice none 0 0]] w (RWr (writeD d at_ b) (writeE d at_ b) w) := by
  have hln : d.l.length = n := h.bl.len
  have HDN := Aside0.mk hdn
  have HK := Aside0.mk (And.intro hb (And.intro hkn hat))
  have hmr : m = d.row.length := by rw [← h.hl, h.len]
  have HM := Aside0.mk hmr
  clear hdn hb hkn hat hmr
  have hnd : n = nD d * 64 := by rw [← hln]; exact ok.len
  obtain ⟨bd, hbd⟩ : ∃ b : Obj, Obj.cells #[.int .i64 d.limit, .slice A n c, .slice B m e, .int .i64 d.ops, .int .i64 d.fuse, .bool d.down] 47 = b := ⟨_, rfl⟩
  obtain ⟨bo, hbo⟩ : ∃ b : Obj, Obj.cells #[.int .i64 2, .int .i64 at_, .int .i64 0, .slice K kn kc, .slice none 0 0] 54 = b := ⟨_, rfl⟩
  obtain ⟨h1, h2, h3, h4⟩ := heap3 w bd bo (.cells #[.int .i64 0, .slice none 0 0, .slice none 0 0, .int .i64 0, .int .i64 0, .bool false] 47)
  have H0 := Aside0.mk (And.intro h1 (And.intro h2 (And.intro h3 h4)))
  have HW := Aside0.mk h
  have HOK := Aside0.mk ok
  have HND := Aside0.mk hnd
  have HF := Aside0.mk (And.intro hf ho)
  replace hbd := Aside0.mk hbd
  replace hbo := Aside0.mk hbo
  clear h h1 h2 h3 h4 ok hln hnd hf ho
  show Calls Try.prog 55 #[.agg #[.int .i64 d.limit, .slice A n c, .slice B m e, .int .i64 d.ops, .int .i64 d.fuse, .bool d.down], .agg #[.int .i64 2, .int .i64 at_, .int .i64 0, .slice K kn kc, .slice none 0 0]] w _
  go_enter Try.func55, Try.ntmps55
  go_upto_region 1 with fail
  rw [hbd.out, hbo.out]
  obtain ⟨w0, hw0⟩ : ∃ X, ((w.alloc bd).alloc bo).alloc (.cells #[.int .i64 0, .slice none 0 0, .slice none 0 0, .int .i64 0, .int .i64 0, .bool false] 47) = X := ⟨_, rfl⟩
  obtain ⟨N2, hN2⟩ : ∃ X, w.heap.size + 1 + 1 = X := ⟨_, rfl⟩
  obtain ⟨N1, hN1⟩ : ∃ X, w.heap.size + 1 = X := ⟨_, rfl⟩
  obtain ⟨N, hN⟩ : ∃ X, w.heap.size = X := ⟨_, rfl⟩
  rw [hw0, hN2, hN1, hN] at H0
  rw [hw0, hN2, hN1, hN]
  have hN' := Aside0.mk hN
  have hNN := Aside0.mk (show N < N1 ∧ N1 < N2 by omega)
  clear hw0 hN2 hN1 hN
  have hYO := Aside0.mk (show ∀ X : World, X.heap[N1]? = some bo → X.cell? ⟨N1, 0, none⟩ = some (.int .i64 2) ∧ X.cell? ⟨N1, 1, none⟩ = some (.int .i64 at_) ∧ X.cell? ⟨N1, 2, none⟩ = some (.int .i64 0) ∧ X.cell? ⟨N1, 3, none⟩ = some (.slice K kn kc) ∧ X.cell? ⟨N1, 4, none⟩ = some (.slice none 0 0) from fun X hX => by rw [← hbo.out] at hX; exact row5_cells8 hX)
  have hr0 := H0.out.1
  rw [← hbd.out] at hr0
  clear hbd hbo
  have HRM := Aside0.mk (show ∀ X : World, Below N w X → RM X A n c B m e hs d from fun X hX => HW.out.below (by rw [hN'.out]; exact hX))
  have HSZ := Aside0.mk (show ∀ X : World, Below N w X → N ≤ X.heap.size from fun X hX => by rw [← hN'.out]; exact hX.size)
  have yf := fun j => Go.Joins.unfrozen_of_block H0.out.2.2.1 j
  have yn := fun j => Go.Joins.unfrozen_of_block hr0 j
  have HR0 := Aside0.mk hr0
  obtain ⟨x0, x1, x2, x3, x4, x5⟩ := row6_cells hr0
  obtain ⟨y0, y1, y2, y3, y4⟩ := hYO.out _ H0.out.2.1
  obtain ⟨z0, z1, z2, z3, z4, z5⟩ := row6_cells H0.out.2.2.1
  clear hr0
  rw [HDN.out] at x5
  have HR0' := HR0.out
  rw [HDN.out] at HR0'
  replace HR0 := Aside0.mk HR0'
  clear HR0'
  have hkb := HK.out.1.len
  have HKL := Aside0.mk hkb
  clear hkb
  have hklim : kn ≤ 1000000 := by have := HK.out.2.1; omega
  obtain ⟨sg, hsg⟩ : ∃ x : Nat, kn / 64 = x := ⟨_, rfl⟩
  have HSG := Aside0.mk hsg
  clear hsg
  have rm1 : (kn : Int).tmod 64 = ((kn % 64 : Nat) : Int) := rem64 kn
  obtain ⟨rk, hrk⟩ : ∃ x : Nat, kn % 64 = x := ⟨_, rfl⟩
  rw [hrk] at rm1
  have HRK := Aside0.mk hrk
  have rm2 : (kn : Int) % 64 = (rk : Int) := by omega
  clear hrk
  have wr1 : IntKind.i64.wrap (rk : Int) = (rk : Int) := IntWalk.i64_in _ (by have := HRK.out; omega)
  by_cases q0 : kn = 0 ∨ rk ≠ 0
  · have HE := Aside0.mk (show wrE d (nD d) at_ b.length = 1 by unfold wrE; rw [if_neg (by rw [HDN.out]; decide), HKL.out, if_pos (by have := HRK.out; omega)])
    have HC := Aside0.mk (And.intro HRK.out q0)
    obtain ⟨t0, ht0⟩ : ∃ t0, ((kn : Int) == 0) = t0 := ⟨_, rfl⟩
    have ht1 : t0 = false → ((rk : Int) != 0) = true := fun h => by
      rw [h] at ht0
      have := beq_eq_false_iff_ne.1 ht0
      exact bne_iff_ne.2 (by omega)
    clear q0
    cases t0 with
    | true =>
      clear ht1
      have HD := Aside0.mk (dload (row6_set (.int .i64 d.limit) (.slice A n c) (.slice B m e) (.int .i64 d.ops) (.int .i64 d.fuse) (.bool false) H0.out.2.2.1))
      go_wp2_with fail
      have hD := HD.out
      refine bodyPost_ret (v := .tuple #[.agg #[.int .i64 d.limit, .slice A n c, .slice B m e, .int .i64 d.ops, .int .i64 d.fuse, .bool false], .int .i64 1]) (by simp [results, Try.results55, asAddr, hD]) rfl ?_
      have hB := below_only H0.out.2.2.2 (only_set6 (W := w0) (g := N2) (.int .i64 d.limit) (.slice A n c) (.slice B m e) (.int .i64 d.ops) (.int .i64 d.fuse) (.bool false)) (by have := hNN.out; omega) (HSZ.out _ H0.out.2.2.2)
      rw [show writeD d at_ b = d from if_neg (by rw [HE.out]; decide), show writeE d at_ b = 1 by unfold writeE; rw [HE.out, if_neg (by decide)]]
      exact ⟨A, n, c, B, m, e, hs, by unfold rv; rw [HDN.out], HRM.out _ hB, by rw [hN'.out]; exact hB⟩
    | false =>
      have ht2 := ht1 rfl
      clear ht1
      have HD := Aside0.mk (dload (row6_set (.int .i64 d.limit) (.slice A n c) (.slice B m e) (.int .i64 d.ops) (.int .i64 d.fuse) (.bool false) H0.out.2.2.1))
      go_wp2_with fail
      have hD := HD.out
      refine bodyPost_ret (v := .tuple #[.agg #[.int .i64 d.limit, .slice A n c, .slice B m e, .int .i64 d.ops, .int .i64 d.fuse, .bool false], .int .i64 1]) (by simp [results, Try.results55, asAddr, hD]) rfl ?_
      have hB := below_only H0.out.2.2.2 (only_set6 (W := w0) (g := N2) (.int .i64 d.limit) (.slice A n c) (.slice B m e) (.int .i64 d.ops) (.int .i64 d.fuse) (.bool false)) (by have := hNN.out; omega) (HSZ.out _ H0.out.2.2.2)
      rw [show writeD d at_ b = d from if_neg (by rw [HE.out]; decide), show writeE d at_ b = 1 by unfold writeE; rw [HE.out, if_neg (by decide)]]
      exact ⟨A, n, c, B, m, e, hs, by unfold rv; rw [HDN.out], HRM.out _ hB, by rw [hN'.out]; exact hB⟩
  · have g0 : ((kn : Int) == 0) = false := beq_eq_false_iff_ne.2 (by omega)
    have hrk0 : rk = 0 := by omega
    subst hrk0
    have g00 : (((0 : Nat) : Int) != 0) = false := rfl
    have HKM := Aside0.mk (show kn = 64 * sg ∧ 0 < sg by have := HRK.out; have := HSG.out; omega)
    have dv : (kn : Int).tdiv 64 = (sg : Int) := by rw [div64, HSG.out]
    have dv2 : (kn : Int) / 64 = (sg : Int) := by have := HKM.out.1; omega
    have w1' : IntKind.i64.wrap (sg : Int) = (sg : Int) := IntWalk.i64_in _ (by have := HKM.out.1; omega)
    clear q0
    have cIs := ris_any A n c B m e hs d at_ (sg : Int) w0 (HRM.out _ H0.out.2.2.2) HOK.out hn (by have := HK.out.2.2; omega)
    rw [show rv d A n c B m e = #[.int .i64 d.limit, .slice A n c, .slice B m e, .int .i64 d.ops, .int .i64 d.fuse, .bool false] by unfold rv; rw [HDN.out]] at cIs
    obtain ⟨hh, hhh⟩ : ∃ x, hasB (nD d) at_ (sg : Int) = x := ⟨_, rfl⟩
    rw [hhh] at cIs
    have HHH := Aside0.mk hhh
    clear hhh
    cases hh with
    | false =>
      have HE := Aside0.mk (show wrE d (nD d) at_ b.length = 11 by unfold wrE; rw [if_neg (by rw [HDN.out]; decide), HKL.out, HSG.out, if_neg (by have := HKM.out; omega), if_neg (by rw [HHH.out]; decide)])
      go_upto_region 4 with (go_at_call 53; refine cIs.mono ?_; rintro e1 w1 ⟨rfl, hB⟩; (have H1 := Aside0.mk (And.intro ((hB.block _ (Array.getElem?_eq_some_iff.1 HR0.out).1).trans HR0.out) (And.intro ((hB.block _ (Array.getElem?_eq_some_iff.1 H0.out.2.1).1).trans H0.out.2.1) (And.intro ((hB.block _ (Array.getElem?_eq_some_iff.1 H0.out.2.2.1).1).trans H0.out.2.2.1) (below_then H0.out.2.2.2 (HSZ.out _ H0.out.2.2.2) hB))))); clear hB x0 x1 x2 x3 x4 x5 y0 y1 y2 y3 y4 z0 z1 z2 z3 z4 z5 yf yn)
      obtain ⟨x0, x1, x2, x3, x4, x5⟩ := row6_cells H1.out.1
      obtain ⟨z0, z1, z2, z3, z4, z5⟩ := row6_cells H1.out.2.2.1
      have yf := fun j => Go.Joins.unfrozen_of_block H1.out.2.2.1 j
      have HD := Aside0.mk (dload (row6_set (.int .i64 d.limit) (.slice A n c) (.slice B m e) (.int .i64 d.ops) (.int .i64 d.fuse) (.bool false) H1.out.2.2.1))
      go_wp2_with fail
      have hD := HD.out
      refine bodyPost_ret (v := .tuple #[.agg #[.int .i64 d.limit, .slice A n c, .slice B m e, .int .i64 d.ops, .int .i64 d.fuse, .bool false], .int .i64 11]) (by simp [results, Try.results55, asAddr, hD]) rfl ?_
      have hB := below_only H1.out.2.2.2 (only_set6 (W := w1) (g := N2) (.int .i64 d.limit) (.slice A n c) (.slice B m e) (.int .i64 d.ops) (.int .i64 d.fuse) (.bool false)) (by have := hNN.out; omega) (HSZ.out _ H1.out.2.2.2)
      rw [show writeD d at_ b = d from if_neg (by rw [HE.out]; decide), show writeE d at_ b = 11 by unfold writeE; rw [HE.out, if_neg (by decide)]]
      exact ⟨A, n, c, B, m, e, hs, by unfold rv; rw [HDN.out], HRM.out _ hB, by rw [hN'.out]; exact hB⟩
    | true =>
      have HE := Aside0.mk (show wrE d (nD d) at_ b.length = 0 by unfold wrE; rw [if_neg (by rw [HDN.out]; decide), HKL.out, HSG.out, if_neg (by have := HKM.out; omega), if_pos HHH.out])
      have HAT := Aside0.mk (of_decide_eq_true HHH.out).1
      go_upto_region 5 with (go_at_call 53; refine cIs.mono ?_; rintro e1 w1 ⟨rfl, hB⟩; (have H1 := Aside0.mk (And.intro ((hB.block _ (Array.getElem?_eq_some_iff.1 HR0.out).1).trans HR0.out) (And.intro ((hB.block _ (Array.getElem?_eq_some_iff.1 H0.out.2.1).1).trans H0.out.2.1) (And.intro ((hB.block _ (Array.getElem?_eq_some_iff.1 H0.out.2.2.1).1).trans H0.out.2.2.1) (below_then H0.out.2.2.2 (HSZ.out _ H0.out.2.2.2) hB))))); clear hB x0 x1 x2 x3 x4 x5 y0 y1 y2 y3 y4 z0 z1 z2 z3 z4 z5 yf yn)
      obtain ⟨x0, x1, x2, x3, x4, x5⟩ := row6_cells H1.out.1
      have x2' := cell_below ((Below.refl _ w1).alloc (Nat.le_refl _) (.cells #[] 104)) x2
      have HL := Aside0.mk (Oc.lit0 w1 w1.heap.size 104 2 (Nat.le_refl _))
      have HRA := Aside0.mk (HRM.out _ H1.out.2.2.2)
      have hml : m ≤ 1000000 := by have := HM.out; have := HK.out.2.1; omega
      go_upto_region 7 with (at_builtin; refine wpl_two (w0 := w1) w1.heap.size rfl _ _ 45 104 zW 32 rfl Try.underlying45 infoR rfl (by omega) (by omega) _ 0 0 B m e [] hs rfl rfl HL.out (HRA.out.rr.below ((Below.refl _ w1).alloc (Nat.le_refl _) _)) (by simp) (by omega) ((Below.refl _ _).alloc (Nat.le_refl _) _) ?_; rw [Nat.zero_add, List.nil_append]; intro A3 c3 w3 hO3 hB3 hG3)
      clear x0 x1 x2 x3 x4 x5 x2' HL hG3
      go_loopg [6, 7] sg (fun gk v6 v7 wr => ∃ (j : Nat) (A6 : Option Addr) (c6 mm : Nat) (kk : Int) (ks : List (Int × Option Addr × Nat × Nat)), Aside (gk + j = sg) ∧ v7 = .int .i64 kk ∧ v6 = .slice A6 mm c6 ∧ Aside0 (mm = m + j ∧ kk = 64 * (j : Int) ∧ Oc wr w1.heap.size 104 2 A6 mm c6 (wv (hs ++ ks)) ∧ EQ wr ks (segs at_.toNat b j) ∧ Below w1.heap.size w1 wr ∧ (∀ p ∈ ks, ∀ a, p.2.1 = some a → a.block < w1.heap.size ∧ ∃ a0, K = some a0 ∧ a0.block = a.block)))
      case atStart => exact ⟨0, A3, c3, m, 0, [], rfl, rfl, rfl, ⟨rfl, by omega, by rw [List.append_nil]; exact hO3.out, EQ.nil _, hB3.out, fun p h => by cases h⟩⟩
      case round =>
        obtain ⟨j, A6, c6, mm, kk, ks, hk, rfl, rfl, hI⟩ := hrel
        clear hO3 hB3
        have hjp : j ≤ sg := by have := hk.out; omega
        have H5 := Aside0.mk (And.intro ((hI.out.2.2.2.2.1.block _ (Array.getElem?_eq_some_iff.1 H1.out.1).1).trans H1.out.1) (And.intro ((hI.out.2.2.2.2.1.block _ (Array.getElem?_eq_some_iff.1 H1.out.2.1).1).trans H1.out.2.1) ((hI.out.2.2.2.2.1.block _ (Array.getElem?_eq_some_iff.1 H1.out.2.2.1).1).trans H1.out.2.2.1)))
        obtain ⟨y0, y1, y2, y3, y4⟩ := hYO.out _ H5.out.2.1
        rcases Nat.lt_or_ge j sg with hlt | hge
        · have g1 : decide (kk < (kn : Int)) = true := decide_eq_true (by have := hI.out.2.1; have := HKM.out; omega)
          have HKB := Aside0.mk (show kk = 64 * (j : Int) ∧ j < sg ∧ kn = 64 * sg ∧ kn ≤ 1000000 ∧ 0 ≤ at_ ∧ at_ ≤ 1000000000 from ⟨hI.out.2.1, hlt, HKM.out.1, hklim, HAT.out, HK.out.2.2.2⟩)
          have dk : kk.tdiv 64 = (j : Int) := by have := HKB.out; rw [this.1, Int.mul_tdiv_cancel_left _ (by decide)]
          have dk2 : kk / 64 = (j : Int) := by have := HKB.out; omega
          have u1 : IntKind.i64.wrap (j : Int) = (j : Int) := IntWalk.i64_in _ (by have := HKB.out; omega)
          have u2 : IntKind.i64.wrap (at_ + (j : Int)) = at_ + (j : Int) := IntWalk.i64_in _ (by have := HKB.out; omega)
          have u3 : IntKind.i64.wrap (kk + 64) = kk + 64 := IntWalk.i64_in _ (by have := HKB.out; omega)
          have hbd : Below wr.heap.size wr wr.drew := below_drew (Below.refl _ _)
          have hBK : Below w1.heap.size w1 wr.drew := below_then hI.out.2.2.2.2.1 hI.out.2.2.2.2.1.size hbd
          have hBK0 : Below N w wr.drew := below_then H1.out.2.2.2 (HSZ.out _ H1.out.2.2.2) hBK
          have hKb : Bs wr.drew K kn kc b := HK.out.1.below (by rw [hN'.out]; exact hBK0)
          have t1 : ∀ W : World, (Instr.slice 22 (.slice K kn kc) (some (.int .i64 kk)) (some (.int .i64 (kk + 64))) none).run Try.prog W = .ok (.slice (cutA K kc (64 * j)) 64 (kc - 64 * j)) W := fun W => by
            have := HKB.out; have := hKb.le; have := hKb.cap
            rw [sl8_lh W K kn kc .i64 .i64 kk (kk + 64) (by omega) (by omega) (by omega), show (kk + 64).toNat - kk.toNat = 64 by omega, show kk.toNat = 64 * j by omega]
          have hSub := (hKb.drop (64 * j) (by have := HKB.out; omega)).take 64 (by have := HKB.out; omega)
          have HD := Aside0.mk (And.intro hKb (And.intro hSub (And.intro (hI.out.2.2.1.below hbd) (And.intro (hI.out.2.2.2.1.below hbd) (And.intro hBK hbd)))))
          have HS := Aside0.mk (show SW9 N1 at_ K kn kc wr.drew from ⟨y1, y3⟩)
          clear hbd hBK hBK0 hKb hSub hlt hjp
          obtain ⟨wd, hwd⟩ : ∃ X, wr.drew = X := ⟨_, rfl⟩
          have HWD := Aside0.mk hwd
          rw [hwd] at HD HS
          go_upto_region 9 with fail
          refine wp_region_M (fun j => decide (j < 14)) (SW9 N1 at_ K kn kc) (by kernel_rfl) ?_
          rw [hwd]
          clear hwd
          refine wpAnyM_take (i := 0) (v := ?_) (by simp only [List.getElem?_toArray, List.getElem?_cons_succ, List.getElem?_cons_zero]; rfl) (by kernel_rfl) (by kernel_rfl) (by kernel_rfl) (by kernel_rfl) (by exact fun _ _ _ h => h) (Or.inl ⟨by rfl, ?_⟩) HS.out ?_
          rotate_left
          · (intro w' hSw; (unfold SW9 at hSw); go_simp; try with_reducible rfl)
          try simp only [Act.put, List.setIfInBounds_toArray, List.set_cons_zero, List.set_cons_succ]
          refine wpAnyM_take (i := 1) (v := ?_) (by simp only [List.getElem?_toArray, List.getElem?_cons_succ, List.getElem?_cons_zero]; rfl) (by kernel_rfl) (by kernel_rfl) (by kernel_rfl) (by kernel_rfl) (by exact fun _ _ _ h => h) (Or.inl ⟨by rfl, ?_⟩) HS.out ?_
          rotate_left
          · (intro w' hSw; (unfold SW9 at hSw); go_simp; try with_reducible rfl)
          try simp only [Act.put, List.setIfInBounds_toArray, List.set_cons_zero, List.set_cons_succ]
          refine wpAnyM_take (i := 2) (v := ?_) (by simp only [List.getElem?_toArray, List.getElem?_cons_succ, List.getElem?_cons_zero]; rfl) (by kernel_rfl) (by kernel_rfl) (by kernel_rfl) (by kernel_rfl) (by exact fun _ _ _ h => h) (Or.inl ⟨by rfl, ?_⟩) HS.out ?_
          rotate_left
          · (intro w' hSw; (unfold SW9 at hSw); go_simp; try with_reducible rfl)
          try simp only [Act.put, List.setIfInBounds_toArray, List.set_cons_zero, List.set_cons_succ]
          refine wpAnyM_take (i := 3) (v := ?_) (by simp only [List.getElem?_toArray, List.getElem?_cons_succ, List.getElem?_cons_zero]; rfl) (by kernel_rfl) (by kernel_rfl) (by kernel_rfl) (by kernel_rfl) (by exact fun _ _ _ h => h) (Or.inl ⟨by rfl, ?_⟩) HS.out ?_
          rotate_left
          · (intro w' hSw; (unfold SW9 at hSw); go_simp; try with_reducible rfl)
          try simp only [Act.put, List.setIfInBounds_toArray, List.set_cons_zero, List.set_cons_succ]
          refine wpAnyM_take (i := 4) (v := ?_) (by simp only [List.getElem?_toArray, List.getElem?_cons_succ, List.getElem?_cons_zero]; rfl) (by kernel_rfl) (by kernel_rfl) (by kernel_rfl) (by kernel_rfl) (by exact fun _ _ _ h => h) (Or.inl ⟨by rfl, ?_⟩) HS.out ?_
          rotate_left
          · (intro w' hSw; (unfold SW9 at hSw); go_simp; try with_reducible rfl)
          try simp only [Act.put, List.setIfInBounds_toArray, List.set_cons_zero, List.set_cons_succ]
          refine wpAnyM_take (i := 5) (v := ?_) (by simp only [List.getElem?_toArray, List.getElem?_cons_succ, List.getElem?_cons_zero]; rfl) (by kernel_rfl) (by kernel_rfl) (by kernel_rfl) (by kernel_rfl) (by exact fun _ _ _ h => h) (Or.inl ⟨by rfl, ?_⟩) HS.out ?_
          rotate_left
          · (intro w' hSw; (unfold SW9 at hSw); go_simp; try with_reducible rfl)
          try simp only [Act.put, List.setIfInBounds_toArray, List.set_cons_zero, List.set_cons_succ]
          refine wpAnyM_take (i := 6) (v := ?_) (by simp only [List.getElem?_toArray, List.getElem?_cons_succ, List.getElem?_cons_zero]; rfl) (by kernel_rfl) (by kernel_rfl) (by kernel_rfl) (by kernel_rfl) (by exact fun _ _ _ h => h) (Or.inl ⟨by rfl, ?_⟩) HS.out ?_
          rotate_left
          · (intro w' hSw; (unfold SW9 at hSw); go_simp; try with_reducible rfl)
          try simp only [Act.put, List.setIfInBounds_toArray, List.set_cons_zero, List.set_cons_succ]
          refine wpAnyM_take (i := 7) (v := ?_) (by simp only [List.getElem?_toArray, List.getElem?_cons_succ, List.getElem?_cons_zero]; rfl) (by kernel_rfl) (by kernel_rfl) (by kernel_rfl) (by kernel_rfl) (by exact fun _ _ _ h => h) (Or.inl ⟨by rfl, ?_⟩) HS.out ?_
          rotate_left
          · (intro w' hSw; (unfold SW9 at hSw); go_simp; try with_reducible rfl)
          try simp only [Act.put, List.setIfInBounds_toArray, List.set_cons_zero, List.set_cons_succ]
          refine wpAnyM_take (i := 8) (v := ?_) (by simp only [List.getElem?_toArray, List.getElem?_cons_succ, List.getElem?_cons_zero]; rfl) (by kernel_rfl) (by kernel_rfl) (by kernel_rfl) (by kernel_rfl) (by exact fun _ _ _ h => h) (Or.inl ⟨by rfl, ?_⟩) HS.out ?_
          rotate_left
          · (intro w' hSw; (unfold SW9 at hSw); go_simp; try with_reducible rfl)
          try simp only [Act.put, List.setIfInBounds_toArray, List.set_cons_zero, List.set_cons_succ]
          refine wpAnyM_take (i := 9) (v := ?_) (by simp only [List.getElem?_toArray, List.getElem?_cons_succ, List.getElem?_cons_zero]; rfl) (by kernel_rfl) (by kernel_rfl) (by kernel_rfl) (by kernel_rfl) (by exact fun _ _ _ h => h) (Or.inl ⟨by rfl, ?_⟩) HS.out ?_
          rotate_left
          · (intro w' hSw; (unfold SW9 at hSw); go_simp; try with_reducible rfl)
          try simp only [Act.put, List.setIfInBounds_toArray, List.set_cons_zero, List.set_cons_succ]
          refine wpAnyM_take (i := 10) (v := ?_) (by simp only [List.getElem?_toArray, List.getElem?_cons_succ, List.getElem?_cons_zero]; rfl) (by kernel_rfl) (by kernel_rfl) (by kernel_rfl) (by kernel_rfl) (by exact fun _ _ _ h => h) (Or.inl ⟨by rfl, ?_⟩) HS.out ?_
          rotate_left
          · (intro w' hSw; (unfold SW9 at hSw); go_simp; try with_reducible rfl)
          try simp only [Act.put, List.setIfInBounds_toArray, List.set_cons_zero, List.set_cons_succ]
          refine wpAnyM_take (i := 11) (v := ?_) (by simp only [List.getElem?_toArray, List.getElem?_cons_succ, List.getElem?_cons_zero]; rfl) (by kernel_rfl) (by kernel_rfl) (by kernel_rfl) (by kernel_rfl) (by exact fun _ _ _ h => h) (Or.inl ⟨by rfl, ?_⟩) HS.out ?_
          rotate_left
          · (intro w' hSw; (unfold SW9 at hSw); go_simp; try with_reducible rfl)
          try simp only [Act.put, List.setIfInBounds_toArray, List.set_cons_zero, List.set_cons_succ]
          refine wpAnyM_take (i := 12) (v := ?_) (by simp only [List.getElem?_toArray, List.getElem?_cons_succ, List.getElem?_cons_zero]; rfl) (by kernel_rfl) (by kernel_rfl) (by kernel_rfl) (by kernel_rfl) (by exact fun _ _ _ h => h) (Or.inl ⟨by rfl, ?_⟩) HS.out ?_
          rotate_left
          · (intro w' hSw; (unfold SW9 at hSw); go_simp; try with_reducible rfl)
          try simp only [Act.put, List.setIfInBounds_toArray, List.set_cons_zero, List.set_cons_succ]
          have hNb := (Below.refl _ wd).alloc (Nat.le_refl _) (.cells #[.int .i64 (at_ + (j : Int)), .slice (cutA K kc (64 * j)) 64 (kc - 64 * j)] 104)
          have HLT := Aside0.mk (And.intro (oc_litW (W := wd) wd.heap.size (Nat.le_refl _) [(at_ + (j : Int), cutA K kc (64 * j), 64, kc - 64 * j)] 1 rfl (by omega) #[.int .i64 (at_ + (j : Int)), .slice (cutA K kc (64 * j)) 64 (kc - 64 * j)] rfl) (And.intro (HD.out.2.2.1.below hNb) (And.intro (HD.out.2.2.2.1.below hNb) (And.intro (HD.out.2.1.below hNb) (below_then HD.out.2.2.2.2.1 HD.out.2.2.2.2.1.size hNb)))))
          have HS13 := Aside0.mk (show SW9 N1 at_ K kn kc (wd.alloc (.cells #[.int .i64 (at_ + (j : Int)), .slice (cutA K kc (64 * j)) 64 (kc - 64 * j)] 104)) from by
            obtain ⟨a1, a2⟩ := HS.out
            exact ⟨cell_below hNb a1, cell_below hNb a2⟩)
          clear hNb
          refine wpAnyM_one (i := 13) (by kernel_rfl) (by simp only [List.getElem?_toArray, List.getElem?_cons_succ, List.getElem?_cons_zero]; rfl) ?_
          go_wp2_with fail
          refine ⟨HS13.out, ?_⟩
          obtain ⟨wl, hwl⟩ : ∃ X, wd.alloc (.cells #[.int .i64 (at_ + (j : Int)), .slice (cutA K kc (64 * j)) 64 (kc - 64 * j)] 104) = X := ⟨_, rfl⟩
          rw [hwl] at HLT HS13 ⊢
          clear hwl
          try simp only [Act.put, List.setIfInBounds_toArray, List.set_cons_zero, List.set_cons_succ]
          refine wpAnyM_one (i := 14) (by kernel_rfl) (by simp only [List.getElem?_toArray, List.getElem?_cons_succ, List.getElem?_cons_zero]; rfl) ?_
          refine wpl_two (w0 := w1) w1.heap.size (by rfl) _ _ 45 104 zW 32 (by rfl) Try.underlying45 infoR rfl (by omega) (by omega) A6 mm c6 (some ⟨wd.heap.size, 0, none⟩) 1 1 (hs ++ ks) [(at_ + (j : Int), cutA K kc (64 * j), 64, kc - 64 * j)] (by rfl) (by rfl) HLT.out.2.1 HLT.out.1.rc HLT.out.2.2.2.2.size (by have := hI.out.1; have := HKB.out; omega) HLT.out.2.2.2.2 ?_
          intro A8 c8 w8 hO hB hG
          have HZ8 := Aside0.mk (And.intro hO.out hB.out)
          clear hO hB hG
          refine wpl_nil ⟨rfl, (fun h => by exact absurd h (by decide)), ?_⟩
          try simp only [Act.put, List.setIfInBounds_toArray, List.set_cons_zero, List.set_cons_succ]
          refine wpAnyM_take0 (i := 15) (v := ?_) (by simp only [List.getElem?_toArray, List.getElem?_cons_succ, List.getElem?_cons_zero]; rfl) (by kernel_rfl) (by kernel_rfl) (by kernel_rfl) (by rfl) (by exact fun _ _ _ h => h) (Or.inl ⟨by rfl, ?_⟩) ?_
          rotate_left
          · (intro w' _; go_simp; try with_reducible rfl)
          try simp only [Act.put, List.setIfInBounds_toArray, List.set_cons_zero, List.set_cons_succ]
          refine wpAnyM_done (by kernel_rfl) ?_ _
          go_wp2_with fail
          go_roundg (sg - (j + 1))
          case measure => exact (show sg - (j + 1) < gk by have := hk.out; have := HKB.out.2.1; omega)
          case rel =>
            refine ⟨j + 1, A8, c8, mm + 1, kk + 64, ks ++ [(at_ + (j : Int), cutA K kc (64 * j), 64, kc - 64 * j)], (by have := HKB.out; exact (show sg - (j + 1) + (j + 1) = sg by omega)), rfl, rfl, ⟨by have := hI.out.1; omega, by have := HKB.out; omega, ?_, ?_, HZ8.out.2, ?_⟩⟩
            · rw [← List.append_assoc]
              exact HZ8.out.1
            · have hB8 : Below w1.heap.size w1 w8 := HZ8.out.2
              have hK8 : Bs w8 K kn kc b := HK.out.1.below (by rw [hN'.out]; exact below_then H1.out.2.2.2 (HSZ.out _ H1.out.2.2.2) hB8)
              refine EQ.append ?_ (EQ.one ?_ rfl ?_)
              · refine ⟨HD.out.2.2.2.1.len, fun i p hp => ?_⟩
                obtain ⟨q, a1, a2, a3, a4⟩ := HD.out.2.2.2.1.each i p hp
                refine ⟨q, a1, a2, a3, a4.blk fun a ea _ => ?_⟩
                have h6 := hI.out.2.2.2.2.2 p (List.mem_of_getElem? hp) a ea
                exact (hB8.block _ h6.1).trans (HD.out.2.2.2.2.1.block _ h6.1).symm
              · show at_ + (j : Int) = ((at_.toNat + j : Nat) : Int)
                have := HKB.out
                omega
              · have h7 := (hK8.drop (64 * j) (by have := HKB.out; omega)).take 64 (by have := HKB.out; omega)
                rw [Nat.mul_comm] at h7
                rw [Nat.mul_comm 64 j]
                exact h7
            · intro p hp a ea
              rcases List.mem_append.1 hp with hp | hp
              · exact hI.out.2.2.2.2.2 p hp a ea
              · obtain rfl := List.mem_singleton.1 hp
                simp only at ea
                unfold cutA at ea
                have hlt : ∀ a0, K = some a0 → a0.block < w1.heap.size := fun a0 e0 => by
                  obtain ⟨ad, e1, hc⟩ := HK.out.1.cells (by have := HKB.out; omega)
                  rw [e0] at e1
                  injection e1 with e1
                  rw [e1]
                  have h1 := HK.out.1.lt ad (by rw [e0, e1]) (by have := HKB.out; omega)
                  have h2 := H1.out.2.2.2.size
                  have h3 := HSZ.out _ H1.out.2.2.2
                  omega
                split at ea
                · exact ⟨hlt a ea, a, ea, rfl⟩
                · obtain ⟨a0, e0, e1⟩ := Option.map_eq_some_iff.1 ea
                  have := hlt a0 e0
                  rw [← e1, add_block]
                  exact ⟨this, a0, e0, rfl⟩
        · obtain rfl : sg = j := by omega
          have g1 : decide (kk < (kn : Int)) = false := decide_eq_false (by have := hI.out.2.1; have := HKM.out; omega)
          have HI := Aside0.mk hI.out
          clear hge hjp
          go_upto_region 10 with fail
          clear y0 y1 y2 y3 y4
          obtain ⟨x0, x1, x2, x3, x4, x5⟩ := row6_cells H5.out.1
          have yn := fun j => Go.Joins.unfrozen_of_block H5.out.1 j
          go_upto_region 11 with fail
          have hO4 := (OnlyB.refl N wr).set 2 (.slice A6 mm c6)
          have hr4 := heap_setCell_same wr N 2 _ _ (.slice A6 mm c6) H5.out.1
          have hz4 := (hO4.block _ (Array.getElem?_eq_some_iff.1 H5.out.2.2).1 (by have := hNN.out; omega)).trans H5.out.2.2
          have H4 := Aside0.mk (And.intro hr4 (And.intro hz4 hO4))
          obtain ⟨w4, hw4⟩ : ∃ X, wr.setCell ⟨N, 2, none⟩ (.slice A6 mm c6) = X := ⟨_, rfl⟩
          rw [hw4] at H4 ⊢
          clear hw4 hO4 hr4 hz4 yn x0 x1 x2 x3 x4 x5
          obtain ⟨x0, x1, x2, x3, x4, x5⟩ := row6_cells H4.out.1
          have hB3 := below_then H1.out.2.2.2 (HSZ.out _ H1.out.2.2.2) hI.out.2.2.2.2.1
          have hB4 := below_only hB3 H4.out.2.2 (Nat.le_refl _) (HSZ.out _ hB3)
          obtain ⟨dq, hdq⟩ : ∃ x : DV, ({ d with row := d.row ++ segs at_.toNat b sg } : DV) = x := ⟨_, rfl⟩
          obtain ⟨op1, hop1⟩ : ∃ x, (opD dq).ops = x := ⟨_, rfl⟩
          obtain ⟨fu1, hfu1⟩ : ∃ x, (opD dq).fuse = x := ⟨_, rfl⟩
          obtain ⟨dn1, hdn1⟩ : ∃ x, (opD dq).down = x := ⟨_, rfl⟩
          have cC := rcount_any A n c A6 mm c6 dq w4 (by rw [← hdq]; exact HDN.out) (by rw [← hdq]; exact ⟨HOK.out.fuse, HF.out.1⟩) (by rw [← hdq]; exact HF.out.2)
          rw [hop1, hfu1, hdn1, show dq.limit = d.limit by rw [← hdq], show dq.ops = d.ops by rw [← hdq], show dq.fuse = d.fuse by rw [← hdq]] at cC
          have HQ := Aside0.mk (And.intro hdq (And.intro hop1 (And.intro hfu1 hdn1)))
          have HB4 := Aside0.mk hB4
          clear hdq hop1 hfu1 hdn1 hB3 hB4
          have HEK := Aside0.mk (show ∀ X : World, Below N w X → EQ X ks (segs at_.toNat b sg) from fun X hBX => by
            refine ⟨hI.out.2.2.2.1.len, fun i p hp => ?_⟩
            obtain ⟨q, a1, a2, a3, a4⟩ := hI.out.2.2.2.1.each i p hp
            refine ⟨q, a1, a2, a3, a4.blk fun a ea _ => ?_⟩
            obtain ⟨h6, a0, e0, e1⟩ := hI.out.2.2.2.2.2 p (List.mem_of_getElem? hp) a ea
            have h7 : a.block < N := by rw [← e1, ← hN'.out]; exact HK.out.1.lt a0 e0 (by have := HKM.out; omega)
            have h8 : Below N w wr := below_then H1.out.2.2.2 (HSZ.out _ H1.out.2.2.2) hI.out.2.2.2.2.1
            exact (hBX.block _ h7).trans (h8.block _ h7).symm)
          have HRM4 := Aside0.mk (show ∀ X : World, Below w4.heap.size w4 X → RM X A n c A6 mm c6 (hs ++ ks) dq from fun X hX => by
            have hBX : Below N w X := below_then HB4.out (HSZ.out _ HB4.out) hX
            have hR := HRM.out X hBX
            have hlt1 : N < w1.heap.size := (Array.getElem?_eq_some_iff.1 H1.out.1).1
            have hOq : Rc w4 2 A6 mm c6 (wv (hs ++ ks)) := hI.out.2.2.1.rc.only6 H4.out.2.2 (fun h0 a ea => by
              obtain ⟨q, e2, h2, _⟩ := hI.out.2.2.1.head h0
              rw [e2] at ea
              injection ea with ea
              rw [← ea]
              show q ≠ N
              omega)
            have hEk := HEK.out X hBX
            have hE : EQ X (hs ++ ks) (d.row ++ segs at_.toNat b sg) := EQ.append hR.eq hEk
            rw [← HQ.out.1]
            exact ⟨hR.bl, hOq.below hX, by rw [hE.len, List.length_append, segs_len, hI.out.1, HM.out], hE.len, hE.each⟩)
          go_upto_region 12 with (go_at_call 56; refine cC.mono ?_; rintro e1 w5 ⟨rfl, hB⟩; (have H6 := Aside0.mk (And.intro ((hB.block _ (Array.getElem?_eq_some_iff.1 H4.out.1).1).trans H4.out.1) (And.intro ((hB.block _ (Array.getElem?_eq_some_iff.1 H4.out.2.1).1).trans H4.out.2.1) hB))); clear hB x0 x1 x2 x3 x4 x5; (have yn := fun j => Go.Joins.unfrozen_of_block H6.out.1 j); (obtain ⟨x0, x1, x2, x3, x4, x5⟩ := row6_cells H6.out.1))
          have hO7 := only_set6 (W := w5) (g := N) (.int .i64 d.limit) (.slice A n c) (.slice A6 mm c6) (.int .i64 op1) (.int .i64 fu1) (.bool dn1)
          have hr7 := row6_set (.int .i64 d.limit) (.slice A n c) (.slice A6 mm c6) (.int .i64 op1) (.int .i64 fu1) (.bool dn1) H6.out.1
          have hz7 := (hO7.block _ (Array.getElem?_eq_some_iff.1 H6.out.2.1).1 (by have := hNN.out; omega)).trans H6.out.2.1
          have H7 := Aside0.mk (And.intro hr7 (And.intro hz7 hO7))
          obtain ⟨w6, hw6⟩ : ∃ X, ((((((w5.setCell ⟨N, 0, none⟩ (.int .i64 d.limit)).setCell ⟨N, 1, none⟩ (.slice A n c)).setCell ⟨N, 2, none⟩ (.slice A6 mm c6)).setCell ⟨N, 3, none⟩ (.int .i64 op1)).setCell ⟨N, 4, none⟩ (.int .i64 fu1)).setCell ⟨N, 5, none⟩ (.bool dn1)) = X := ⟨_, rfl⟩
          rw [hw6] at H7 ⊢
          clear hw6 hO7 hr7 hz7 x0 x1 x2 x3 x4 x5 yn
          cases dn1 with
          | true =>
            obtain ⟨x0, x1, x2, x3, x4, x5⟩ := row6_cells H7.out.1
            obtain ⟨z0, z1, z2, z3, z4, z5⟩ := row6_cells H7.out.2.1
            have yf := fun j => Go.Joins.unfrozen_of_block H7.out.2.1 j
            have HD := Aside0.mk (dload (row6_set (.int .i64 d.limit) (.slice A n c) (.slice A6 mm c6) (.int .i64 op1) (.int .i64 fu1) (.bool true) H7.out.2.1))
            go_wp2_with fail
            have hD := HD.out
            refine bodyPost_ret (v := .tuple #[.agg #[.int .i64 d.limit, .slice A n c, .slice A6 mm c6, .int .i64 op1, .int .i64 fu1, .bool true], .int .i64 10]) (by simp [results, Try.results55, asAddr, hD]) rfl ?_
            have hB5 := below_then HB4.out (HSZ.out _ HB4.out) H6.out.2.2
            have hB6 := below_only hB5 H7.out.2.2 (Nat.le_refl _) (HSZ.out _ hB5)
            have hO8 := only_set6 (W := w6) (g := N2) (.int .i64 d.limit) (.slice A n c) (.slice A6 mm c6) (.int .i64 op1) (.int .i64 fu1) (.bool true)
            have hB := below_only hB6 hO8 (by have := hNN.out; omega) (HSZ.out _ hB6)
            have hz : d.fuse = 0 := by have h := HQ.out.2.2.2; rw [← HQ.out.1] at h; exact beq_iff_eq.1 h
            have e1 : writeD d at_ b = opD dq := by unfold writeD; rw [if_pos HE.out, HKL.out, HSG.out, HQ.out.1]
            have e2 : writeE d at_ b = 10 := by unfold writeE; rw [if_pos HE.out, if_pos hz]
            rw [e1, e2]
            have h9 : N2 < w1.heap.size := (Array.getElem?_eq_some_iff.1 H1.out.2.2.1).1
            have hR5 := HRM4.out w5 H6.out.2.2
            refine ⟨A, n, c, A6, mm, c6, hs ++ ks, by unfold rv; rw [HQ.out.2.1, HQ.out.2.2.1, HQ.out.2.2.2, show (opD dq).limit = d.limit by rw [← HQ.out.1]; rfl], ?_, by rw [hN'.out]; exact hB⟩
            have hR9 := HRM.out _ hB
            have hRr := (hR5.rr.only6 H7.out.2.2 (fun h0 a ea => by
                obtain ⟨q, e2, h2, _⟩ := hI.out.2.2.1.head h0
                rw [e2] at ea
                injection ea with ea
                rw [← ea]
                show q ≠ N
                have := hNN.out
                omega)).only6 hO8 (fun h0 a ea => by
                obtain ⟨q, e2, h2, _⟩ := hI.out.2.2.1.head h0
                rw [e2] at ea
                injection ea with ea
                rw [← ea]
                show q ≠ N2
                omega)
            refine RM.turn (d := dq) ⟨?_, hRr, hR5.hl, hR5.len, ?_⟩ rfl rfl
            · rw [← HQ.out.1]
              exact hR9.bl
            · have hEk := HEK.out _ hB
              have hE := EQ.append hR9.eq hEk
              rw [← HQ.out.1]
              exact hE.each
          | false =>
            obtain ⟨x0, x1, x2, x3, x4, x5⟩ := row6_cells H7.out.1
            obtain ⟨z0, z1, z2, z3, z4, z5⟩ := row6_cells H7.out.2.1
            have yf := fun j => Go.Joins.unfrozen_of_block H7.out.2.1 j
            have HD := Aside0.mk (dload (row6_set (.int .i64 d.limit) (.slice A n c) (.slice A6 mm c6) (.int .i64 op1) (.int .i64 fu1) (.bool false) H7.out.2.1))
            go_wp2_with fail
            have hD := HD.out
            refine bodyPost_ret (v := .tuple #[.agg #[.int .i64 d.limit, .slice A n c, .slice A6 mm c6, .int .i64 op1, .int .i64 fu1, .bool false], .int .i64 0]) (by simp [results, Try.results55, asAddr, hD]) rfl ?_
            have hB5 := below_then HB4.out (HSZ.out _ HB4.out) H6.out.2.2
            have hB6 := below_only hB5 H7.out.2.2 (Nat.le_refl _) (HSZ.out _ hB5)
            have hO8 := only_set6 (W := w6) (g := N2) (.int .i64 d.limit) (.slice A n c) (.slice A6 mm c6) (.int .i64 op1) (.int .i64 fu1) (.bool false)
            have hB := below_only hB6 hO8 (by have := hNN.out; omega) (HSZ.out _ hB6)
            have hz : ¬ (d.fuse = 0) := by have h := HQ.out.2.2.2; rw [← HQ.out.1] at h; exact beq_eq_false_iff_ne.1 h
            have e1 : writeD d at_ b = opD dq := by unfold writeD; rw [if_pos HE.out, HKL.out, HSG.out, HQ.out.1]
            have e2 : writeE d at_ b = 0 := by unfold writeE; rw [if_pos HE.out, if_neg hz]
            rw [e1, e2]
            have h9 : N2 < w1.heap.size := (Array.getElem?_eq_some_iff.1 H1.out.2.2.1).1
            have hR5 := HRM4.out w5 H6.out.2.2
            refine ⟨A, n, c, A6, mm, c6, hs ++ ks, by unfold rv; rw [HQ.out.2.1, HQ.out.2.2.1, HQ.out.2.2.2, show (opD dq).limit = d.limit by rw [← HQ.out.1]; rfl], ?_, by rw [hN'.out]; exact hB⟩
            have hR9 := HRM.out _ hB
            have hRr := (hR5.rr.only6 H7.out.2.2 (fun h0 a ea => by
                obtain ⟨q, e2, h2, _⟩ := hI.out.2.2.1.head h0
                rw [e2] at ea
                injection ea with ea
                rw [← ea]
                show q ≠ N
                have := hNN.out
                omega)).only6 hO8 (fun h0 a ea => by
                obtain ⟨q, e2, h2, _⟩ := hI.out.2.2.1.head h0
                rw [e2] at ea
                injection ea with ea
                rw [← ea]
                show q ≠ N2
                omega)
            refine RM.turn (d := dq) ⟨?_, hRr, hR5.hl, hR5.len, ?_⟩ rfl rfl
            · rw [← HQ.out.1]
              exact hR9.bl
            · have hEk := HEK.out _ hB
              have hE := EQ.append hR9.eq hEk
              rw [← HQ.out.1]
              exact hE.each
end Go.Proofs.Ythhalmjapiempaa
