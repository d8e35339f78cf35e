/- The walk of over's extent. -/
import Derived.Test.YtbjfklgmbeaaoaaWE
import Derived.Sort.CutIn
set_option linter.unusedVariables false
set_option linter.unusedSimpArgs false
namespace Go.Proofs.Ytbjfklgmbeaaoaa
open Go.RowKit Go.Shelf
attribute [local go_sem] Oper.semAt_some

/-- Pages by their headers, in blocks from a place on. -/
structure Pgf (W : World) (base : Nat) (hs : List SH) (l : List (List UInt8)) : Prop where
  len : hs.length = l.length
  each : ∀ (j : Nat) (p : SH), hs[j]? = some p → ∃ q, l[j]? = some q ∧ Bsh W p q ∧ ∀ ad, p.1 = some ad → base ≤ ad.block
theorem Pgs.pgf {W : World} {base : Nat} {hs : List SH} {l : List (List UInt8)} (h : Pgs W base hs l) : Pgf W base hs l :=
  ⟨h.len, fun j p hj => by
    obtain ⟨q, a, b⟩ := h.each j p hj
    refine ⟨q, a, b.bs, fun ad e => ?_⟩
    rcases b.row.2 with ⟨q2, _⟩ | ⟨g, cap, cur, q2, hg, _⟩
    · injection q2 with q2
      rw [q2] at e
      cases e
    · injection q2 with q2
      rw [q2] at e
      injection e with e
      subst e
      exact hg⟩
theorem Pgf.below {W W1 : World} {base : Nat} {hs : List SH} {l : List (List UInt8)} (h : Pgf W base hs l) (hB : Below W.heap.size W W1) : Pgf W1 base hs l :=
  ⟨h.len, fun j p hj => by obtain ⟨q, a, b, c⟩ := h.each j p hj; exact ⟨q, a, Bs.below b hB, c⟩⟩
def pcH (gb : Nat) (l : List Nat) : List SH := l.map fun x => (some ⟨gb, 256 * x, none⟩, 256, 256)
theorem pcs_pgf {W : World} {base gb c mm : Nat} {xs : List UInt8} (h : Ow W base (some ⟨gb, 0, none⟩) (256 * mm) c xs) (hn : mm ≤ 1000) : Pgf W base (pcH gb (upto id mm)) ((List.range mm).map fun j => (xs.drop (256 * j)).take 256) := by
  have hu : upto id mm = List.range mm := by unfold upto; exact List.map_id' _
  have hg : base ≤ gb := by
    rcases h.row.2 with ⟨q2, _⟩ | ⟨g, cap, cur, q2, hg, _⟩
    · cases q2
    · injection q2 with q2
      injection q2 with q2
      injection q2 with q2
      omega
  refine ⟨by rw [hu]; simp [pcH], fun j p hj => ?_⟩
  have hjm : j < mm := by
    rcases Nat.lt_or_ge j mm with q | q
    · exact q
    · rw [List.getElem?_eq_none (by rw [hu]; simp [pcH]; omega)] at hj
      cases hj
  rw [hu, pcH, List.getElem?_map, List.getElem?_range hjm] at hj
  injection hj with hj
  subst hj
  refine ⟨(xs.drop (256 * j)).take 256, by rw [List.getElem?_map, List.getElem?_range hjm]; rfl, ?_, fun ad e => by injection e with e; subst e; exact hg⟩
  have hb := h.bs
  have hl := hb.len
  show Bs W (some ⟨gb, 256 * j, none⟩) 256 256 _
  refine ⟨by rw [List.length_take, List.length_drop]; omega, Nat.le_refl _, by omega, by omega, fun _ => ⟨_, rfl, fun i hi => ?_⟩⟩
  obtain ⟨ad, e, k⟩ := hb.atN (256 * j + i) (by omega)
  injection e with e
  subst e
  rw [add_plain] at k
  have e2 : ((⟨gb, 256 * j, none⟩ : Addr).add i) = ⟨gb, 256 * j + i, none⟩ := by unfold Addr.add; split <;> simp_all
  rw [e2, k]
  congr 2
  unfold b8
  rw [List.getD_eq_getElem?_getD, List.getD_eq_getElem?_getD, List.getElem?_take, if_pos hi, List.getElem?_drop]
theorem cell_one9 (W : World) (v : Value) (T : TypeId) : ∀ j u, [v][j]? = some u → (W.alloc (.cells #[v] T)).cell? ((⟨W.heap.size, 0, none⟩ : Addr).add j) = some u := fun j u hj => by
  have h := lit1_range (W := W) v T j u hj
  rw [Nat.zero_add] at h
  rw [add_plain]
  exact h
theorem owns_mono9 {W : World} {base base' : Nat} {e : TypeId} {size : Nat} {v : Value} {k : Nat} {xs : List Value} (h : W.ownsRow base e size v k xs) (hb : base' ≤ base) : W.ownsRow base' e size v k xs := by
  refine ⟨h.1, ?_⟩
  rcases h.2 with hn | ⟨g, cap, cur, hv, hg, rest⟩
  · exact .inl hn
  · exact .inr ⟨g, cap, cur, hv, by omega, rest⟩
set_option maxHeartbeats 4000000 in
set_option maxRecDepth 100000 in
theorem extent_any (B : Option Addr) (m d : Nat) (xs : List UInt8) (mm : Nat) (w : World) (hb : Bs w B m d xs) (h33 : 33 ≤ m) (hm : m ≤ 100000) (hmm : mm ≤ 100) (hl : 16 + m ≤ 256 * mm) :
    Calls Try.prog 55 #[.int .i64 3, .slice B m d, .int .i64 (mm : Int)] w fun e w' => ∃ A1 c1 hs, e = .returned (.slice A1 mm c1) ∧ Oc w' w.heap.size 27 1 A1 mm c1 (shl hs) ∧ Pgf w' w.heap.size hs (exL xs mm) ∧ Below w.heap.size w w' := by
  have hxm := hb.len
  obtain ⟨nn, hnn⟩ : ∃ n, 256 * mm = n := ⟨_, rfl⟩
  have hmul : IntKind.i64.wrap ((mm : Int) * 256) = (nn : Int) := (IntWalk.i64_in _ (by omega)).trans (by omega)
  have hmk := mk8 nn (by omega)
  have HX := Aside0.mk (And.intro hb hxm)
  have HNN := Aside0.mk hnn
  have hnn2 : 16 + m ≤ nn := by omega
  have hnn3 : nn ≤ 25600 := by omega
  clear hb hxm hnn hl
  refine (callsIn_wide (n := 6)).1 ?_
  have hF : ∀ k, Fence.wide.fn k := fun _ => trivial
  refine callsIn_of_wp_marks Try.func55 rfl (hF _) ?_ rfl
  simp only [Try.ntmps55, List.size_toArray, List.length_cons, List.length_nil, Nat.reduceAdd, Nat.reduceSub, Array.replicate_succ, Array.replicate_zero, List.push_toArray, List.append_toArray, List.nil_append, List.cons_append]
  gi_upto_region 2 with (first
    | (gi_at_call 35; refine (callsIn_wide.2 (wrap_any 79 3 (mm : Int) (m : Int) none 0 0 [] w (Bs.nil w none 0 (by omega)) ⟨by omega, by omega⟩ ⟨by omega, by omega⟩)).mono ?_; rintro e w1 ⟨A1, c1, rfl, hO, hB⟩; (have H1 := Aside0.mk (And.intro hO hB)); clear hO hB))
  have hpl : (wrB 79 3 (mm : Int) (m : Int) []).length = 256 := exW_len ⟨by omega, by omega⟩ ⟨by omega, by omega⟩
  rw [hpl] at H1
  rw [hpl]
  obtain ⟨pg, hpg⟩ : ∃ p, wrB 79 3 (mm : Int) (m : Int) [] = p := ⟨_, rfl⟩
  rw [hpg] at H1
  have HPG := Aside0.mk (And.intro hpg (show pg.length = 256 by rw [← hpg]; exact hpl))
  clear hpg hpl
  gi_upto_region 3 with fail
  have hB2 := below_alloc H1.out.2 H1.out.2.size (.cells (madeCells #[.int .u8 0] nn) 5)
  have hO2 := Ow.made w1 w.heap.size w1.heap.size rfl H1.out.2.size nn (by omega)
  have hA2 := H1.out.1.alloc (.cells (madeCells #[.int .u8 0] nn) 5)
  obtain ⟨w2, hw2⟩ : ∃ X, w1.alloc (.cells (madeCells #[.int .u8 0] nn) 5) = X := ⟨_, rfl⟩
  have hg1 := (H1.out.2).size
  have hlt : ∀ k, A1 = some ⟨k, 0, none⟩ → k < w1.heap.size := fun k e => by
    obtain ⟨g', e2, _, h3, _⟩ := H1.out.1.head (by omega)
    rw [e] at e2
    injection e2 with e2
    injection e2 with e2
    omega
  obtain ⟨g, hg⟩ : ∃ X, w1.heap.size = X := ⟨_, rfl⟩
  rw [hw2, hg] at hO2
  rw [hw2] at hB2 hA2
  rw [hg] at hlt hg1
  rw [hw2, hg]
  have H2 := Aside0.mk (And.intro hO2 (And.intro hB2 (And.intro hA2 (And.intro hg1 hlt))))
  clear hO2 hB2 hA2 hg1 hlt hw2 hg hmk
  have sA := fun W => sl8_h W A1 256 c1 .i64 16 (by omega) (by have := H1.out.1.bs.le; omega)
  have sB := fun W => ck_sl1 g 16 nn nn (by omega) (Nat.le_refl _) W
  have sC := fun W => sl8_lh W (some ⟨g, 0, none⟩) nn nn .i64 .i64 4 8 (by omega) (by omega) (by omega)
  have hcut : cutA (some ⟨g, 0, none⟩) nn 4 = some ⟨g, 4, none⟩ := by rw [cutA, if_neg (by omega), Option.map_some, add_plain]
  simp only [show ((4 : Int)).toNat = 4 from rfl, show ((8 : Int)).toNat = 8 from rfl, hcut] at sC
  clear hcut
  gi_upto_region 4 with (first
    | (gi_at_call 41; refine (callsIn_wide.2 (head_any 3 _)).mono ?_; rintro e w3 ⟨rfl, hB⟩; (have H3 := Aside0.mk (And.intro (H2.out.1.below hB) (And.intro (below_then H2.out.2.1 H2.out.2.1.size hB) (H2.out.2.2.1.below hB)))); clear hB; rw [show hdI 3 = 16 from rfl])
    | (with_reducible refine wplIn_cp8 w.heap.size rfl _ _ rfl g 0 nn nn nn nn (List.replicate nn 0) (pg.take 16) A1 16 c1 rfl rfl H3.out.1 (H3.out.2.2.bs.take 16 (by omega)) (by omega) (by omega) (by omega) ?_; intro w4 H4))
  have h4 := H4.out.2.below H3.out.2.1 H2.out.2.2.2.1 (Nat.le_refl _)
  have H5 := Aside0.mk (And.intro H4.out.1 (And.intro h4 (HX.out.1.below h4)))
  clear h4
  gi_upto_region 5 with (with_reducible refine wplIn_cp8 w.heap.size rfl _ _ rfl g 16 nn nn (nn - 16) (nn - 16) (putL (List.replicate nn 0) (pg.take 16) 0) xs B m d rfl rfl H5.out.1 H5.out.2.2 (by omega) (by omega) (by omega) ?_; intro w6 H6)
  have h6 := H6.out.2.below H5.out.2.1 H2.out.2.2.2.1 (Nat.le_refl _)
  obtain ⟨L, hL⟩ : ∃ L, putL (putL (List.replicate nn 0) (pg.take 16) 0) xs 16 = L := ⟨_, rfl⟩
  have h7 := H6.out.1
  rw [hL] at h7
  have HL := Aside0.mk hL
  have H7 := Aside0.mk (And.intro h7 h6)
  have hcl := fun c2 => clear4 h7 (by omega) c2
  have h8 := h7.cleared
  clear h6 h7 hL H6
  gi_upto_region 6 with fail
  obtain ⟨w7, hw7⟩ : ∃ X, (((w6.setCell ⟨g, 4, none⟩ (.int .u8 0)).setCell ⟨g, 5, none⟩ (.int .u8 0)).setCell ⟨g, 6, none⟩ (.int .u8 0)).setCell ⟨g, 7, none⟩ (.int .u8 0) = X := ⟨_, rfl⟩
  rw [hw7] at h8 hcl
  rw [hw7]
  have H8 := Aside0.mk (And.intro h8.1 (h8.2.below H7.out.2 H2.out.2.2.2.1 (Nat.le_refl _)))
  clear h8 hcl hw7 sA sB sC
  gi_upto_region 7 with (gi_at_call 89; refine (callsIn_wide.2 (seal_any (some ⟨g, 0, none⟩) nn nn (sum4 L 4 0) 4 w7 H8.out.1.bs)).mono ?_; rintro e w8 ⟨A8, c8, rfl, hO, hB⟩; (have H9 := Aside0.mk (And.intro (hO.mono H8.out.2.size) (below_then H8.out.2 H8.out.2.size hB))); clear hO hB)
  have hE : sealB (sum4 L 4 0) 4 = exA xs mm := by
    rw [← HL.out, ← HPG.out.1]
    have h9 := exA_of (v := xs) (n := mm) (by omega) (by rw [HX.out.2]; omega) (by rw [HX.out.2, HNN.out]; omega)
    rw [HX.out.2, HNN.out] at h9
    exact h9
  rw [hE] at H9
  obtain ⟨gb, rfl, hgb, hgb2, _⟩ := H9.out.1.head (by omega)
  clear hE
  gi_upto_region 9 with (gi_at_call 95; refine (chunk_in Fence.wide 5 (hF _) rfl _ _ _ _).mono ?_; rintro e w10 ⟨rfl, rfl⟩)
  have hs8 := H9.out.2.size
  have HWE := Aside0.mk (And.intro H9.out.1 (And.intro H9.out.2 hgb))
  clear H9 hgb H8 H7 HL H2 H3 H4 H5 H1 HPG
  obtain ⟨b, hbq⟩ : ∃ X, w8.heap.size = X := ⟨_, rfl⟩
  rw [hbq] at hgb2 hs8
  have bS := Boxed.new w8 43 (.slice none 0 0)
  have bN := Boxed.new (w8.alloc (.cells #[.slice none 0 0] 43)) 27 (.slice (some ⟨gb, 0, none⟩) nn c8)
  have bM := Boxed.new ((w8.alloc (.cells #[.slice none 0 0] 43)).alloc (.cells #[.slice (some ⟨gb, 0, none⟩) nn c8] 27)) 3 (.int .i64 256)
  rw [hbq] at bS
  simp only [World.size_alloc, hbq] at bN bM
  have bS3 := (bS.alloc (.cells #[.slice (some ⟨gb, 0, none⟩) nn c8] 27)).alloc (.cells #[.int .i64 256] 3)
  have bN3 := bN.alloc (.cells #[.int .i64 256] 3)
  have hB3 : Below w8.heap.size w8 (((w8.alloc (.cells #[.slice none 0 0] 43)).alloc (.cells #[.slice (some ⟨gb, 0, none⟩) nn c8] 27)).alloc (.cells #[.int .i64 256] 3)) := (((Below.refl _ w8).alloc (Nat.le_refl _) _).alloc (by simp) _).alloc (by simp; omega) _
  have hs3 : (((w8.alloc (.cells #[.slice none 0 0] 43)).alloc (.cells #[.slice (some ⟨gb, 0, none⟩) nn c8] 27)).alloc (.cells #[.int .i64 256] 3)).heap.size = b + 3 := by simp [hbq]
  rw [hbq] at hB3
  rw [hbq]
  obtain ⟨W3, hW3⟩ : ∃ X, ((w8.alloc (.cells #[.slice none 0 0] 43)).alloc (.cells #[.slice (some ⟨gb, 0, none⟩) nn c8] 27)).alloc (.cells #[.int .i64 256] 3) = X := ⟨_, rfl⟩
  rw [hW3] at bS3 bN3 bM hB3 hs3
  rw [hW3]
  have HBQ := Aside0.mk hbq
  have hcn := HWE.out.1.bs.le
  clear hW3 bS bN hbq
  obtain ⟨i0, hi, hz0, hz1, hz2⟩ := info_parts infoSl
  refine wpIn_rangeFunc_ownG (F := Fence.wide) (n := 6) rfl (by decide) (gf := 117) (lb := #[.pointer (some ⟨b + 1, 0, none⟩), .pointer (some ⟨b + 1 + 1, 0, none⟩)]) rfl (hF _) (enters_of Try.func117 (by kernel_rfl) rfl)
    (chunk_stops Fence.wide 5 (hF _) rfl (by decide) (b + 1) (b + 1 + 1) b (b + 3) gb c8 mm (by rw [HNN.out]; exact hcn) (by omega) (by omega) (by omega) (by omega) (by omega) W3 (by omega) (by rw [HNN.out]; exact bN3.cell) bM.cell)
    KX.trans (KX.put (w := W3) (by omega)) (Below.refl _ _) (fun _ => rfl)
    (fun pre W => (∃ v, Boxed W b 43 v ∧ W.ownsRow (b + 3) 27 1 v pre.length (shl (pcH gb pre)) ∧ True) ∧ Below b W3 W)
    (fun _ _ _ => False)
    (OwnFrom.and (Own.from (holdsRow_own (b + 3) b 43 27 1 (fun pre : List Nat => pre.length) (fun pre => shl (pcH gb pre)) (fun _ _ => True)) _) (ownFrom_below (by omega) (by omega)))
    (fun _ _ _ _ _ hs _ _ => hs)
    ⟨⟨_, bS3, World.ownsRow_nil _ _ _ _, trivial⟩, Below.refl _ _⟩
    (fun x => { tmps := #[Value.int IntKind.i64 3, Value.slice B m d, Value.int IntKind.i64 (mm : Int), undef, undef, undef, Value.slice none 0 0, Value.slice A1 256 c1, Value.int IntKind.i64 (wrE 79 3 (mm : Int) (m : Int) []), Value.slice (some ⟨gb, 0, none⟩) nn c8, Value.int IntKind.i64 16, Value.pointer (some ⟨b, 0, none⟩), Value.slice (some ⟨gb, 256 * x, none⟩) 256 256, Value.tuple #[Value.slice A1 256 c1, Value.int IntKind.i64 (wrE 79 3 (mm : Int) (m : Int) [])], Value.int IntKind.i64 3, Value.int IntKind.i64 (mm : Int), Value.slice B m d, Value.int IntKind.i64 (m : Int), Value.agg #[Value.int IntKind.i64 79, Value.int IntKind.i64 3, Value.int IntKind.i64 (mm : Int), Value.int IntKind.i64 (m : Int)], Value.tuple #[Value.slice A1 256 c1, Value.int IntKind.i64 (wrE 79 3 (mm : Int) (m : Int) [])], Value.slice A1 256 c1, Value.int IntKind.i64 (wrE 79 3 (mm : Int) (m : Int) []), Value.int IntKind.i64 (mm : Int), Value.int IntKind.i64 (nn : Int), Value.slice (some ⟨g, 0, none⟩) nn nn, Value.slice (some ⟨g, 0, none⟩) nn nn, Value.slice A1 256 c1, Value.int IntKind.i64 3, Value.int IntKind.i64 16, Value.slice A1 16 c1, Value.int IntKind.i64 16, Value.slice (some ⟨g, 0, none⟩) nn nn, Value.int IntKind.i64 16, Value.slice (some ⟨g, 16, none⟩) (nn - 16) (nn - 16), Value.slice B m d, Value.int IntKind.i64 (m : Int), Value.slice (some ⟨g, 0, none⟩) nn nn, Value.slice (some ⟨g, 4, none⟩) 4 (nn - 4), Value.slice (some ⟨g, 0, none⟩) nn nn, Value.slice (some ⟨gb, 0, none⟩) nn c8, Value.slice (some ⟨gb, 0, none⟩) nn c8, Value.func (Fn.func 117) #[] #[Value.pointer (some ⟨b + 1, 0, none⟩), Value.pointer (some ⟨b + 1 + 1, 0, none⟩)], Value.slice (some ⟨gb, 256 * x, none⟩) 256 256, undef, undef, undef, undef, undef], defers := [] }) ?assign ?body ?done ?stop
  case assign =>
    intro l x W K hK
    gi_wp2
    exact hK
  case body =>
    rintro l pre x W ⟨⟨v, hv, hr, _⟩, hBB⟩ hlen
    have hcell := hv.cell
    have hws : b + 3 ≤ W.heap.size := by have := hBB.size; omega
    gi_wp2_with (gi_at_builtin; refine wpListIn_append_own _ rfl _ _ 43 rfl (b + 3) 27 i0 (.slice none 0 0) 1 24 Try.underlying43 hi hz0 hz1 hz2 rfl (by decide) v pre.length (shl (pcH gb pre)) rfl (hr.alloc _) ⟨W.heap.size, 0, none⟩ 1 1 [.slice (some ⟨gb, 256 * x, none⟩) 256 256] rfl rfl (cell_one9 _ _ _) (by simp [Value.oneCell']) (by simp [maxLen]; omega) (by omega) (by simp; omega) ?_; intro v' w1 hown' hgrow _; obtain ⟨g', cap', rfl⟩ := ownsRow_succ hown'; obtain ⟨hv1, hv2, hr2, hk2, hb2⟩ := hv.appended (by decide) (owns_mono9 hr (show b ≤ b + 3 by omega)) (by omega) (Nat.le_refl _) (owns_mono9 hown' (show b ≤ b + 3 by omega)) hgrow; have hc1 := hv1.cell; have hf1 := hv1.frozen)
    have hr3 := hown'.kept (grownBy_setCell' w1 b (.slice (some ⟨g', 0, none⟩) (pre.length + 1) cap')) (.inr (hv1.not_row (by decide) hown').symm)
    refine ⟨hk2.from _, ⟨fun i hi hne => ?_⟩, ⟨⟨_, hv2, ?_, trivial⟩, hBB.trans hb2⟩⟩
    · refine (Below.heap_setCell _ _ _ _ hne).trans ((hgrow.block i (by simp; omega) ?_).trans (Below.heap_alloc _ _ _ (by omega)))
      rcases hr.2 with ⟨rfl, _⟩ | ⟨q, cap, cur, rfl, hq, _⟩
      · intro e; cases e
      · intro e; have e2 : i = q := (by simpa [Value.ownBlock] using e); omega
    · rw [List.length_append, List.length_cons, List.length_nil]
      unfold pcH
      rw [List.map_append, shl_app]
      exact hr3
  case done =>
    rintro D ys W hD rfl ⟨⟨v, hv, hr, _⟩, hBB⟩ hK
    have hcell := hv.cell
    rw [upto_length] at hr
    obtain ⟨A9, c9, rfl⟩ := own_form hr
    have hgW : Ow W w.heap.size (some ⟨gb, 0, none⟩) (256 * mm) c8 (exA xs mm) := by
      rw [HNN.out]
      refine HWE.out.1.kept fun k e hk => ?_
      injection e with e
      injection e with e
      subst e
      exact (hBB.block _ hgb2).trans (hB3.block _ hgb2)
    have hDb : b + 3 ≤ D := by omega
    have hgF : Ow (W.putObj D (.deferred none)) w.heap.size (some ⟨gb, 0, none⟩) (256 * mm) c8 (exA xs mm) := by
      refine hgW.kept fun k e hk => ?_
      injection e with e
      injection e with e
      subst e
      exact World.putObj_heap_other (by omega)
    have hBF : Below w.heap.size w (W.putObj D (.deferred none)) :=
      ((HWE.out.2.1.trans (hB3.mono hs8)).trans (hBB.mono hs8)).trans (belowK_b (w := W3) (by omega) W D _ _ hD hK rfl rfl)
    have hOF := ownsRow_putObj hr (.deferred none) hK rfl
    have HF := Aside0.mk (And.intro hgF (And.intro hBF hOF))
    clear hgF hBF hOF hgW
    gi_wp2
    refine ⟨by simp, .inl ⟨_, _, rfl, run_takeDeferred hK, ?_⟩⟩
    refine ⟨_, results_tmp rfl _ _ _, A9, c9, pcH gb (upto id mm), rfl, ⟨owns_mono9 HF.out.2.2 (by omega), shl_one _, by omega⟩, ?_, HF.out.2.1⟩
    exact pcs_pgf HF.out.1 (by omega)
  case stop =>
    rintro D ca pre W _ _ hx _
    exact hx.elim
end Go.Proofs.Ytbjfklgmbeaaoaa
