/- The walk of the law PagerWrites. -/
import Derived.Test.YthhalmjapiempaaSD
import Derived.Test.YthhalmjapiempaaNF
import Derived.Test.YthhalmjapiempaaR7
import Derived.Test.YthhalmjapiempaaND
set_option linter.unusedVariables false
set_option linter.unusedSimpArgs false
namespace Go.Proofs.Ythhalmjapiempaa
open Go.RowKit

theorem wp_cut {P : Program} {c : Code} {a : Act} {w : World} {Q : Exit → Act → World → Prop} (F : Nat → Nat → Option Addr → Nat → Nat → Act) (S : Nat → Nat → Option Addr → Nat → Nat → World → Prop)
    (h : c.wp P (fun x a' w' => match x with | .normal => ∃ g M A n c, S g M A n c w' ∧ a' = F g M A n c | _ => False) a w)
    (hq : ∀ g M A n c w', S g M A n c w' → Q .normal (F g M A n c) w') : c.wp P Q a w := by
  refine Go.wp_mono h (fun e a w q => ?_)
  cases e <;> first | exact absurd q (fun z => z) | skip
  obtain ⟨g, M, A, n, c, hS, rfl⟩ := q
  exact hq g M A n c w hS
theorem Hs.since {w0 w2 X : World} {hs : List (Int × Option Addr × Nat × Nat)} {l : List (Int × List UInt8)} (h : Hs w0 [] X hs l) (hz : w0.heap.size ≤ w2.heap.size) : Hs w2 [] X hs l :=
  ⟨h.len, fun j p hj => by
    obtain ⟨q, a, b, c, d, e⟩ := h.each j p hj
    exact ⟨q, a, b, c, fun h0 x hx => .inl (by rcases d h0 x hx with z | ⟨o, z⟩; omega; cases z), e⟩⟩
theorem row11_cells {W : World} {g : Nat} {T : TypeId} {a b c d e f h i j k l : Value} (q : W.heap[g]? = some (.cells #[a, b, c, d, e, f, h, i, j, k, l] T)) :
    W.cell? ⟨g, 0, none⟩ = some a ∧ W.cell? ⟨g, 1, none⟩ = some b ∧ W.cell? ⟨g, 2, none⟩ = some c ∧ W.cell? ⟨g, 3, none⟩ = some d ∧ W.cell? ⟨g, 4, none⟩ = some e ∧ W.cell? ⟨g, 5, none⟩ = some f ∧ W.cell? ⟨g, 6, none⟩ = some h ∧ W.cell? ⟨g, 7, none⟩ = some i ∧ W.cell? ⟨g, 8, none⟩ = some j ∧ W.cell? ⟨g, 9, none⟩ = some k ∧ W.cell? ⟨g, 10, none⟩ = some l := by
  refine ⟨?_, ?_, ?_, ?_, ?_, ?_, ?_, ?_, ?_, ?_, ?_⟩ <;> (rw [cell_of_row _ _ _ _ _ _ q]; rfl)
theorem Oc.down {w : World} {base base' k n c : Nat} {T : TypeId} {A : Option Addr} {xs : List Value} (h : Oc w base T k A n c xs) (hb : base' ≤ base) : Oc w base' T k A n c xs := by
  refine ⟨⟨h.row.1, ?_⟩, h.one, h.lim⟩
  rcases h.row.2 with hn | ⟨g, cap, cur, hv, hg, rest⟩
  · exact .inl hn
  · exact .inr ⟨g, cap, cur, hv, Nat.le_trans hb hg, rest⟩
/-- A row that was made ahead of the disk is held, too. -/
theorem DH.rebase {wa wb : World} {g : Nat} {R : List (Nat × Obj)} {d : DV} {W : World} (h : DH wb g R d W) (hB : Below wa.heap.size wa wb) (i : Nat) (o : Obj) (ho : wb.heap[i]? = some o) : DH wa g ((i, o) :: R) d W := by
  have hi := (Array.getElem?_eq_some_iff.1 ho).1
  obtain ⟨A, c, B, e, h⟩ := h
  have hs := hB.size
  refine ⟨A, c, B, e, ⟨h.dm.row, Nat.le_trans hs h.dm.lo, h.dm.sl.down hs, h.dm.sr.down hs, h.dm.na, h.dm.nb, h.dm.ab⟩, h.ok, fun p hp => ?_, fun p hp => ?_, below_then hB hs h.bel⟩
  · rcases List.mem_cons.1 hp with rfl | hp
    · refine ⟨by have := h.dm.lo; show i ≠ g; omega, fun q => ?_, fun q => ?_⟩
      · have := h.dm.sl.lo _ q
        omega
      · have := h.dm.sr.lo _ q
        omega
    · exact h.apt p hp
  · rcases List.mem_cons.1 hp with rfl | hp
    · exact (h.bel.block _ hi).trans ho
    · exact h.rows p hp
theorem RM.keep {W X : World} {A : Option Addr} {n c : Nat} {d : DV} (h : RM W A n c none 0 0 [] d) (hb : ∀ a, A = some a → 0 < n → X.heap[a.block]? = W.heap[a.block]?) : RM X A n c none 0 0 [] d :=
  ⟨h.bl.blk hb, Rc.nil6 _, rfl, h.len, fun j p hj => by cases hj⟩
theorem Hs.hws {w0 : World} {R : List (Nat × Obj)} {W : World} {hs : List (Int × Option Addr × Nat × Nat)} {l : List (Int × List UInt8)} (h : Hs w0 R W hs l) (hb : ∀ q ∈ l, 0 ≤ q.1 ∧ q.1 ≤ 100000) : HWs W hs l :=
  ⟨h.len, fun j p hj => by
    obtain ⟨q, a, b, c, _, _⟩ := h.each j p hj
    have hq := hb q (List.mem_of_getElem? a)
    exact ⟨q, a, b, hq.1, hq.2, c⟩⟩
theorem lodD_rb (x : List UInt8) (lim fu : Int) (hf : fu ≤ 9223372036854775807) : RB (armD (lodD x lim) fu) 0 0 := by
  have hn : nD (lodD x lim) = cntL x.length (limI lim) := nD_of (d := lodD x lim) (loadL_len x _)
  have hok := (lodD_up x lim).ok
  have hl := limI_le lim
  refine ⟨⟨hok.len, hok.each, hok.lim0, hok.lim, ?_⟩, ?_, ⟨Nat.le_refl _, Int.le_refl _, Int.le_refl _, ?_⟩⟩
  · show -1 ≤ (if fu < -1 then -1 else fu)
    split <;> omega
  · show (nD (lodD x lim) : Int) ≤ limI lim
    rw [hn]
    unfold cntL
    omega
  · show (if fu < -1 then -1 else fu) ≤ 9223372036854775807
    split <;> omega
/-- Both disks, loaded: the program's, and the document's in its box M. -/
structure LS (wd : World) (D : DV) (g M : Nat) (A1 : Option Addr) (n1 c1 : Nat) (w : World) : Prop where
  dh : ∃ RA, DH wd g ((M, .cells #[.int .i64 D.limit, .slice A1 n1 c1, .slice none 0 0, .int .i64 D.ops, .int .i64 D.fuse, .bool D.down] 47) :: RA) D w ∧ (∀ p ∈ RA, p.1 ≠ M) ∧ (0 < n1 → ∀ a, A1 = some a → ∃ o, (a.block, o) ∈ RA)
  rm : RM w A1 n1 c1 none 0 0 [] D
  lo : wd.heap.size ≤ M
/-- The same, ahead of the box. -/
structure LT (wd : World) (D : DV) (g M : Nat) (A1 : Option Addr) (n1 c1 : Nat) (w : World) : Prop where
  dh : ∃ RA, DH wd g ((M, .cells #[.int .i64 0, .slice none 0 0, .slice none 0 0, .int .i64 0, .int .i64 0, .bool false] 47) :: RA) D w ∧ (∀ p ∈ RA, p.1 ≠ M) ∧ (0 < n1 → ∀ a, A1 = some a → ∃ o, (a.block, o) ∈ RA)
  rm : RM w A1 n1 c1 none 0 0 [] D
  lo : wd.heap.size ≤ M
theorem LT.set {wd : World} {D : DV} {g M : Nat} {A1 : Option Addr} {n1 c1 : Nat} {w w1 : World} (h : LT wd D g M A1 n1 c1 w) (ho : OnlyB M w w1) (hr : w1.heap[M]? = some (.cells #[.int .i64 D.limit, .slice A1 n1 c1, .slice none 0 0, .int .i64 D.ops, .int .i64 D.fuse, .bool D.down] 47)) : LS wd D g M A1 n1 c1 w1 := by
  obtain ⟨RA, hd, hne, hA⟩ := h.dh
  exact ⟨⟨RA, hd.turn ho h.lo hne hr, hne, hA⟩, RM.stay6 (hd.row List.mem_cons_self) h.rm ho (fun q _ _ => by decide), h.lo⟩
theorem LT.row {wd : World} {D : DV} {g M : Nat} {A1 : Option Addr} {n1 c1 : Nat} {w : World} (h : LT wd D g M A1 n1 c1 w) : w.heap[M]? = some (.cells #[.int .i64 0, .slice none 0 0, .slice none 0 0, .int .i64 0, .int .i64 0, .bool false] 47) := by
  obtain ⟨RA, hd, hne, hA⟩ := h.dh
  exact hd.row List.mem_cons_self
/-- The document's bytes are loaded: they stand beside the disk. -/
theorem rload_hold {wd : World} {g : Nat} {R : List (Nat × Obj)} {D : DV} {w w1 : World} {A1 : Option Addr} {n1 c1 : Nat} (h : DH wd g R D w) (hB : Below w.heap.size w w1) (hR : RM w1 A1 n1 c1 none 0 0 [] D) (hA : 0 < n1 → ∀ a, A1 = some a → w.heap.size ≤ a.block) :
    ∃ RA, DH wd g (RA ++ R) D w1 ∧ (∀ p ∈ RA, w.heap.size ≤ p.1 ∧ p.1 < w1.heap.size) ∧ (0 < n1 → ∀ a, A1 = some a → ∃ o, (a.block, o) ∈ RA) := by
  rcases Nat.eq_zero_or_pos n1 with h0 | h0
  · exact ⟨[], h.step hB, fun p hp => (by cases hp), fun q => absurd q (by omega)⟩
  · obtain ⟨ad, rfl, _⟩ := hR.bl.cells h0
    have h1 := hR.bl.lt ad rfl h0
    have h2 := hA h0 ad rfl
    obtain ⟨o, ho⟩ := h.holdx hB ad.block h2 h1
    exact ⟨[(ad.block, o)], ho, fun p hp => by obtain rfl := List.mem_singleton.1 hp; exact ⟨h2, h1⟩, fun _ a e => by injection e with e; subst e; exact ⟨o, List.mem_singleton.2 rfl⟩⟩

set_option maxHeartbeats 64000000 in
set_option maxRecDepth 100000 in
theorem pagerWrites_any (A : Option Addr) (n c : Nat) (xs : List UInt8) (K : Option Addr) (kn kc : Nat) (hs : List (Int × Option Addr × Nat × Nat)) (l : List (Int × List UInt8)) (ge ph tg tx rt pg li : Int) (A' : Option Addr) (n' c' : Nat) (cu : List UInt8) (fmt : Bool) (lim fu : Int) (W : World) (hb : Bs W A n c xs) (hw : Wrs W K kn kc hs l) (hm : Bs W A' n' c' cu) (hL : -9223372036854775808 ≤ lim ∧ lim ≤ 9223372036854775807) (hF : -9223372036854775808 ≤ fu ∧ fu ≤ 9223372036854775807) :
    Calls Try.prog 4 #[.slice A n c, .slice K kn kc, .agg #[.int .i64 ge, .int .i64 ph, .int .i64 tg, .int .i64 tx, .int .i64 rt, .int .i64 pg, .int .i64 li, .slice A' n' c', .bool fmt, .int .i64 lim, .int .i64 fu]] W fun e w' => e = .returned (.bool true) ∧ Below W.heap.size W w' := by
  obtain rfl := hm.len
  have hcl := hm.lim
  have hxl := hb.len
  obtain ⟨bw, hbw⟩ : ∃ b : Obj, Obj.cells #[.int .i64 ge, .int .i64 ph, .int .i64 tg, .int .i64 tx, .int .i64 rt, .int .i64 pg, .int .i64 li, .slice A' cu.length c', .bool fmt, .int .i64 lim, .int .i64 fu] 44 = b := ⟨_, rfl⟩
  have hB0 := (Below.refl _ W).alloc (Nat.le_refl _) bw
  have H0 := Aside0.mk (And.intro (hb.below hB0) (And.intro (hw.rl.below hB0) (And.intro (hw.hs.below hB0) (And.intro (hm.below hB0) (And.intro (heap_alloc_new W bw) hB0)))))
  have HB := Aside0.mk (And.intro hL hF)
  have HXL := Aside0.mk hxl
  clear hb hw hm hB0 hL hF hxl
  go_enter Try.func4, Try.ntmps4
  go_upto_region 1 with fail
  obtain ⟨W0, hW0⟩ : ∃ X, W.alloc bw = X := ⟨_, rfl⟩
  obtain ⟨N5, hN5⟩ : ∃ X, W.heap.size = X := ⟨_, rfl⟩
  rw [hW0, hN5] at H0
  rw [hW0, hN5]
  have hN' := Aside0.mk hN5
  have HY := Aside0.mk (show ∀ w' : World, w'.heap[N5]? = some bw → w'.cell? ⟨N5, 0, none⟩ = some (.int .i64 ge) ∧ w'.cell? ⟨N5, 1, none⟩ = some (.int .i64 ph) ∧ w'.cell? ⟨N5, 2, none⟩ = some (.int .i64 tg) ∧ w'.cell? ⟨N5, 3, none⟩ = some (.int .i64 tx) ∧ w'.cell? ⟨N5, 4, none⟩ = some (.int .i64 rt) ∧ w'.cell? ⟨N5, 5, none⟩ = some (.int .i64 pg) ∧ w'.cell? ⟨N5, 6, none⟩ = some (.int .i64 li) ∧ w'.cell? ⟨N5, 7, none⟩ = some (.slice A' cu.length c') ∧ w'.cell? ⟨N5, 8, none⟩ = some (.bool fmt) ∧ w'.cell? ⟨N5, 9, none⟩ = some (.int .i64 lim) ∧ w'.cell? ⟨N5, 10, none⟩ = some (.int .i64 fu) from fun w' hX => by rw [← hbw] at hX; exact row11_cells hX)
  obtain ⟨y0, y1, y2, y3, y4, y5, y6, y7, y8, y9, y10⟩ := HY.out _ H0.out.2.2.2.2.1
  clear hW0 hN5 hbw
  obtain ⟨m, hmv⟩ : ∃ m : MV, (⟨ge, ph, tg, tx, rt, pg, li, cu⟩ : MV) = m := ⟨_, rfl⟩
  by_cases q : fewB l ⟨ge, ph, tg, tx, rt, pg, li, cu⟩ = true ∧ n ≤ 10240
  case neg =>
    obtain ⟨fb, hfb⟩ : ∃ b, fewB l ⟨ge, ph, tg, tx, rt, pg, li, cu⟩ = b := ⟨_, rfl⟩
    rw [hfb] at q
    have Hq := Aside0.mk q
    have HFB := Aside0.mk hfb
    clear hfb q hmv
    cases fb with
    | false =>
      go_wp2_with (first
        | (go_at_call 9; refine (few12_any K kn kc hs l ⟨ge, ph, tg, tx, rt, pg, li, cu⟩ A' c' W0 H0.out.2.1 H0.out.2.2.1.hl hcl).mono ?_; rintro e w1 ⟨rfl, hB⟩; rw [HFB.out]; (have H1 := Aside0.mk (below_then H0.out.2.2.2.2.2 (by rw [← hN'.out]; exact H0.out.2.2.2.2.2.size) hB)); clear hB)
        | (go_at_call 11; with_reducible refine (alive12_any w1).mono ?_; rintro e w2 ⟨rfl, hB⟩; (have H2 := Aside0.mk (below_then H1.out (by rw [← hN'.out]; exact H1.out.size) hB)); clear hB)
        | fail)
      go_ret
      rw [hN'.out]
      exact ⟨rfl, H2.out⟩
    | true =>
      have g0 : decide ((10240 : Int) < (n : Int)) = true := decide_eq_true (by have := Hq.out; simp only [true_and] at this; omega)
      go_wp2_with (first
        | (go_at_call 9; refine (few12_any K kn kc hs l ⟨ge, ph, tg, tx, rt, pg, li, cu⟩ A' c' W0 H0.out.2.1 H0.out.2.2.1.hl hcl).mono ?_; rintro e w1 ⟨rfl, hB⟩; rw [HFB.out]; (have H1 := Aside0.mk (below_then H0.out.2.2.2.2.2 (by rw [← hN'.out]; exact H0.out.2.2.2.2.2.size) hB)); clear hB)
        | (go_at_call 11; with_reducible refine (alive12_any w1).mono ?_; rintro e w2 ⟨rfl, hB⟩; (have H2 := Aside0.mk (below_then H1.out (by rw [← hN'.out]; exact H1.out.size) hB)); clear hB)
        | fail)
      go_ret
      rw [hN'.out]
      exact ⟨rfl, H2.out⟩
  case pos =>
    obtain ⟨qf, qn⟩ := q
    have HFB := Aside0.mk qf
    have HFW := Aside0.mk (show l.length ≤ 12 ∧ totB l ≤ 5120 ∧ pg ≤ 40 ∧ cu.length ≤ 100 from of_decide_eq_true qf)
    have HN := Aside0.mk qn
    have g0 : decide ((10240 : Int) < (n : Int)) = false := decide_eq_false (by omega)
    clear qf qn hmv
    go_upto_region 3 with (first
      | (go_at_call 9; refine (few12_any K kn kc hs l ⟨ge, ph, tg, tx, rt, pg, li, cu⟩ A' c' W0 H0.out.2.1 H0.out.2.2.1.hl hcl).mono ?_; rintro e w1 ⟨rfl, hB⟩; rw [HFB.out]; (have H1 := Aside0.mk (And.intro (H0.out.1.below hB) (And.intro (H0.out.2.1.below hB) (And.intro (H0.out.2.2.1.below hB) (And.intro (H0.out.2.2.2.1.below hB) (And.intro ((hB.block _ (Array.getElem?_eq_some_iff.1 H0.out.2.2.2.2.1).1).trans H0.out.2.2.2.2.1) (below_then H0.out.2.2.2.2.2 (by rw [← hN'.out]; exact H0.out.2.2.2.2.2.size) hB))))))); clear hB)
      | fail)
    have hbd : Below w1.heap.size w1 w1.drew := below_drew (Below.refl _ _)
    have Hd := Aside0.mk (And.intro (H1.out.1.below hbd) (And.intro (H1.out.2.1.below hbd) (And.intro (H1.out.2.2.1.below hbd) (And.intro (H1.out.2.2.2.1.below hbd) (And.intro ((hbd.block _ (Array.getElem?_eq_some_iff.1 H1.out.2.2.2.2.1).1).trans H1.out.2.2.2.2.1) (below_then H1.out.2.2.2.2.2 (by rw [← hN'.out]; exact H1.out.2.2.2.2.2.size) hbd))))))
    obtain ⟨wd, hwd⟩ : ∃ X, w1.drew = X := ⟨_, rfl⟩
    rw [hwd] at Hd
    clear hbd y0 y1 y2 y3 y4 y5 y6 y7 y8 y9 y10 g0
    obtain ⟨D, hD⟩ : ∃ d, lodD xs lim = d := ⟨_, rfl⟩
    have HDE := Aside0.mk (show (⟨limI lim, loadL xs (cntL n (limI lim)), [], 0, -1, false⟩ : DV) = D from by rw [← hD]; unfold lodD; rw [HXL.out])
    have HDL := Aside0.mk hD
    clear hD
    have HYB := Aside0.mk (show ∀ w' : World, Below wd.heap.size wd w' → w'.cell? ⟨N5, 0, none⟩ = some (.int .i64 ge) ∧ w'.cell? ⟨N5, 1, none⟩ = some (.int .i64 ph) ∧ w'.cell? ⟨N5, 2, none⟩ = some (.int .i64 tg) ∧ w'.cell? ⟨N5, 3, none⟩ = some (.int .i64 tx) ∧ w'.cell? ⟨N5, 4, none⟩ = some (.int .i64 rt) ∧ w'.cell? ⟨N5, 5, none⟩ = some (.int .i64 pg) ∧ w'.cell? ⟨N5, 6, none⟩ = some (.int .i64 li) ∧ w'.cell? ⟨N5, 7, none⟩ = some (.slice A' cu.length c') ∧ w'.cell? ⟨N5, 8, none⟩ = some (.bool fmt) ∧ w'.cell? ⟨N5, 9, none⟩ = some (.int .i64 lim) ∧ w'.cell? ⟨N5, 10, none⟩ = some (.int .i64 fu) from fun w' hX => HY.out _ ((hX.block _ (Array.getElem?_eq_some_iff.1 Hd.out.2.2.2.2.1).1).trans Hd.out.2.2.2.2.1))
    have HS9 := Aside0.mk (show ∀ w' : World, Below wd.heap.size wd w' → w'.cell? ⟨N5, 9, none⟩ = some (.int .i64 lim) from fun w' hX => (HYB.out w' hX).2.2.2.2.2.2.2.2.2.1)
    apply wp_cut (S := LS wd D)
    case h =>
      refine wp_region_M (fun j => decide (j < 11)) (fun w' => w'.cell? ⟨N5, 9, none⟩ = some (.int .i64 lim)) (by kernel_rfl) ?_
      rw [hwd]
      refine wpAnyM_take (i := 0) (v := ?_) (by simp only [List.getElem?_toArray, List.getElem?_cons_succ, List.getElem?_cons_zero]; rfl) (by kernel_rfl) (by kernel_rfl) (by kernel_rfl) (by kernel_rfl) (by exact fun _ _ _ h => h) (Or.inl ⟨by rfl, ?_⟩) (HS9.out _ (Below.refl _ _)) ?_
      rotate_left
      · (intro w' hSw; (try dsimp only at hSw); go_simp; try with_reducible rfl)
      try simp only [Act.put, List.setIfInBounds_toArray, List.set_cons_zero, List.set_cons_succ]
      refine wpAnyM_take (i := 1) (v := ?_) (by simp only [List.getElem?_toArray, List.getElem?_cons_succ, List.getElem?_cons_zero]; rfl) (by kernel_rfl) (by kernel_rfl) (by kernel_rfl) (by kernel_rfl) (by exact fun _ _ _ h => h) (Or.inl ⟨by rfl, ?_⟩) (HS9.out _ (Below.refl _ _)) ?_
      rotate_left
      · (intro w' hSw; (try dsimp only at hSw); go_simp; try with_reducible rfl)
      try simp only [Act.put, List.setIfInBounds_toArray, List.set_cons_zero, List.set_cons_succ]
      refine wpAnyM_take (i := 2) (v := ?_) (by simp only [List.getElem?_toArray, List.getElem?_cons_succ, List.getElem?_cons_zero]; rfl) (by kernel_rfl) (by kernel_rfl) (by kernel_rfl) (by kernel_rfl) (by exact fun _ _ _ h => h) (Or.inl ⟨by rfl, ?_⟩) (HS9.out _ (Below.refl _ _)) ?_
      rotate_left
      · (intro w' hSw; (try dsimp only at hSw); go_simp; try with_reducible rfl)
      try simp only [Act.put, List.setIfInBounds_toArray, List.set_cons_zero, List.set_cons_succ]
      refine wpAnyM_take (i := 4) (v := ?_) (by simp only [List.getElem?_toArray, List.getElem?_cons_succ, List.getElem?_cons_zero]; rfl) (by kernel_rfl) (by kernel_rfl) (by kernel_rfl) (by kernel_rfl) (by exact fun _ _ _ h => h) (Or.inl ⟨by rfl, ?_⟩) (HS9.out _ (Below.refl _ _)) ?_
      rotate_left
      · (intro w' hSw; (try dsimp only at hSw); go_simp; try with_reducible rfl)
      try simp only [Act.put, List.setIfInBounds_toArray, List.set_cons_zero, List.set_cons_succ]
      refine wpAnyM_take (i := 5) (v := ?_) (by simp only [List.getElem?_toArray, List.getElem?_cons_succ, List.getElem?_cons_zero]; rfl) (by kernel_rfl) (by kernel_rfl) (by kernel_rfl) (by kernel_rfl) (by exact fun _ _ _ h => h) (Or.inl ⟨by rfl, ?_⟩) (HS9.out _ (Below.refl _ _)) ?_
      rotate_left
      · (intro w' hSw; (try dsimp only at hSw); go_simp; try with_reducible rfl)
      try simp only [Act.put, List.setIfInBounds_toArray, List.set_cons_zero, List.set_cons_succ]
      refine wpAnyM_take (i := 6) (v := ?_) (by simp only [List.getElem?_toArray, List.getElem?_cons_succ, List.getElem?_cons_zero]; rfl) (by kernel_rfl) (by kernel_rfl) (by kernel_rfl) (by kernel_rfl) (by exact fun _ _ _ h => h) (Or.inl ⟨by rfl, ?_⟩) (HS9.out _ (Below.refl _ _)) ?_
      rotate_left
      · (intro w' hSw; (try dsimp only at hSw); go_simp; try with_reducible rfl)
      try simp only [Act.put, List.setIfInBounds_toArray, List.set_cons_zero, List.set_cons_succ]
      have Bwd := Aside0.mk (Below.refl wd.heap.size wd)
      refine wpAnyM_pair (i := 3) (k := 8) (by kernel_rfl) (by simp only [List.getElem?_toArray, List.getElem?_cons_succ, List.getElem?_cons_zero]; rfl) (by simp only [List.getElem?_toArray, List.getElem?_cons_succ, List.getElem?_cons_zero]; rfl) ?_ ?_
      · skip
        go_wp2_with (go_at_call 18; refine (load_h (w0 := wd) A n c xs lim wd (Hd.out.1.below Bwd.out) (by have := HN.out; omega) (Below.refl _ _)).mono ?_; rintro e w2 ⟨g, rfl, hH, hB⟩; rw [HDE.out] at hH; (have Hw2 := Aside0.mk hH); (have Bw2 := Aside0.mk (below_then Bwd.out Bwd.out.size hB)); clear hH hB)
        refine ⟨HS9.out _ Bw2.out, ?_⟩
        try simp only [Act.put, List.setIfInBounds_toArray, List.set_cons_zero, List.set_cons_succ]
        refine wpAnyM_pair (i := 7) (k := 8) (by kernel_rfl) (by simp only [List.getElem?_toArray, List.getElem?_cons_succ, List.getElem?_cons_zero]; rfl) (by simp only [List.getElem?_toArray, List.getElem?_cons_succ, List.getElem?_cons_zero]; rfl) ?_ ?_
        · skip
          go_wp2_with (go_at_call 20; refine (rload2_any A n c xs lim w2 (Hd.out.1.below Bw2.out) (by have := HN.out; omega)).mono ?_; rintro e w3 ⟨A1, n1, c1, rfl, hR, hB, hA⟩; rw [HDL.out] at hR; rw [HDL.out, show rv D A1 n1 c1 none 0 0 = #[.int .i64 D.limit, .slice A1 n1 c1, .slice none 0 0, .int .i64 D.ops, .int .i64 D.fuse, .bool D.down] from rfl]; (obtain ⟨RA, hH, hI, hJ⟩ := rload_hold Hw2.out hB hR hA); (have Hw3 := Aside0.mk (And.intro hH (And.intro hI (And.intro hJ hR)))); (have Bw3 := Aside0.mk (below_then Bw2.out Bw2.out.size hB)); clear hR hB hA hH hI hJ)
          refine ⟨HS9.out _ Bw3.out, ?_⟩
          try simp only [Act.put, List.setIfInBounds_toArray, List.set_cons_zero, List.set_cons_succ]
          refine wpAnyM_one (i := 8) (by kernel_rfl) (by simp only [List.getElem?_toArray, List.getElem?_cons_succ, List.getElem?_cons_zero]; rfl) ?_
          have hz := (Below.refl _ w3).alloc (Nat.le_refl _) (.cells #[.int .i64 0, .slice none 0 0, .slice none 0 0, .int .i64 0, .int .i64 0, .bool false] 47)
          have Bw4 := Aside0.mk (below_then Bw3.out Bw3.out.size hz)
          have Hw4 := Aside0.mk (And.intro (Hw3.out.1.lit (.cells #[.int .i64 0, .slice none 0 0, .slice none 0 0, .int .i64 0, .int .i64 0, .bool false] 47)) (And.intro (fun p hp => Nat.ne_of_lt (Hw3.out.2.1 p hp).2 : ∀ p ∈ RA, p.1 ≠ w3.heap.size) (And.intro Hw3.out.2.2.1 (And.intro (Hw3.out.2.2.2.below hz) (show wd.heap.size ≤ w3.heap.size from Bw3.out.size)))))
          go_wp2_with fail
          refine ⟨HS9.out _ Bw4.out, ?_⟩
          obtain ⟨M, hM⟩ : ∃ X, w3.heap.size = X := ⟨_, rfl⟩
          obtain ⟨w4, hw4⟩ : ∃ X, w3.alloc (.cells #[.int .i64 0, .slice none 0 0, .slice none 0 0, .int .i64 0, .int .i64 0, .bool false] 47) = X := ⟨_, rfl⟩
          rw [hw4, hM] at Hw4
          rw [hw4] at Bw4
          rw [hw4, hM]
          have HME := Aside0.mk (Nat.le_of_eq hM)
          clear hz hM hw4
          try simp only [Act.put, List.setIfInBounds_toArray, List.set_cons_zero, List.set_cons_succ]
          have HT := Aside0.mk (show LT wd D g M A1 n1 c1 w4 from ⟨⟨RA, by have := Hw4.out.1; rwa [List.append_nil] at this, Hw4.out.2.1, Hw4.out.2.2.1⟩, Hw4.out.2.2.2.1, Hw4.out.2.2.2.2⟩)
          refine wpAnyM_take (i := 9) (v := ?_) (by simp only [List.getElem?_toArray, List.getElem?_cons_succ, List.getElem?_cons_zero]; rfl) (by kernel_rfl) (by kernel_rfl) (by kernel_rfl) (by kernel_rfl) (by exact fun _ _ _ h => h) (Or.inl ⟨by rfl, ?_⟩) (HS9.out _ Bw4.out) ?_
          rotate_left
          · (intro w' hSw; (try dsimp only at hSw); go_simp; try with_reducible rfl)
          try simp only [Act.put, List.setIfInBounds_toArray, List.set_cons_zero, List.set_cons_succ]
          refine wpAnyM_one (i := 10) (by kernel_rfl) (by simp only [List.getElem?_toArray, List.getElem?_cons_succ, List.getElem?_cons_zero]; rfl) ?_
          have hr := HT.out.row
          obtain ⟨z0, z1, z2, z3, z4, z5⟩ := row6_cells hr
          have yM := fun j => Go.Joins.unfrozen_of_block hr j
          have ho := only_set6 (W := w4) (g := M) (.int .i64 D.limit) (.slice A1 n1 c1) (.slice none 0 0) (.int .i64 D.ops) (.int .i64 D.fuse) (.bool D.down)
          have HL := Aside0.mk (HT.out.set ho (row6_set (.int .i64 D.limit) (.slice A1 n1 c1) (.slice none 0 0) (.int .i64 D.ops) (.int .i64 D.fuse) (.bool D.down) hr))
          have BZ := Aside0.mk (below_only Bw4.out ho HT.out.lo Bw4.out.size)
          clear hr ho
          go_wp2_with fail
          refine ⟨HS9.out _ Bw4.out, ?_⟩
          try simp only [Act.put, List.setIfInBounds_toArray, List.set_cons_zero, List.set_cons_succ]
          refine wpAnyM_done (by kernel_rfl) ?_ _
          refine ⟨g, M, A1, n1, c1, HL.out, ?_⟩
          rfl
        · skip
          have hz := (Below.refl _ w2).alloc (Nat.le_refl _) (.cells #[.int .i64 0, .slice none 0 0, .slice none 0 0, .int .i64 0, .int .i64 0, .bool false] 47)
          have Bw3 := Aside0.mk (below_then Bw2.out Bw2.out.size hz)
          have Hw3 := Aside0.mk (And.intro (Hw2.out.lit (.cells #[.int .i64 0, .slice none 0 0, .slice none 0 0, .int .i64 0, .int .i64 0, .bool false] 47)) (And.intro (show wd.heap.size ≤ w2.heap.size from Bw2.out.size) (show w2.heap.size < (w2.alloc (.cells #[.int .i64 0, .slice none 0 0, .slice none 0 0, .int .i64 0, .int .i64 0, .bool false] 47)).heap.size by simp)))
          go_wp2_with fail
          refine ⟨HS9.out _ Bw3.out, ?_⟩
          obtain ⟨M, hM⟩ : ∃ X, w2.heap.size = X := ⟨_, rfl⟩
          obtain ⟨w3, hw3⟩ : ∃ X, w2.alloc (.cells #[.int .i64 0, .slice none 0 0, .slice none 0 0, .int .i64 0, .int .i64 0, .bool false] 47) = X := ⟨_, rfl⟩
          rw [hw3, hM] at Hw3
          rw [hw3] at Bw3
          rw [hw3, hM]
          have HME := Aside0.mk (Nat.le_of_eq hM)
          clear hz hM hw3
          try simp only [Act.put, List.setIfInBounds_toArray, List.set_cons_zero, List.set_cons_succ]
          have HM := Aside0.mk Hw3.out.2
          replace Hw3 := Aside0.mk Hw3.out.1
          refine wpAnyM_one (i := 7) (by kernel_rfl) (by simp only [List.getElem?_toArray, List.getElem?_cons_succ, List.getElem?_cons_zero]; rfl) ?_
          go_wp2_with (go_at_call 20; refine (rload2_any A n c xs lim w3 (Hd.out.1.below Bw3.out) (by have := HN.out; omega)).mono ?_; rintro e w4 ⟨A1, n1, c1, rfl, hR, hB, hA⟩; rw [HDL.out] at hR; rw [HDL.out, show rv D A1 n1 c1 none 0 0 = #[.int .i64 D.limit, .slice A1 n1 c1, .slice none 0 0, .int .i64 D.ops, .int .i64 D.fuse, .bool D.down] from rfl]; (obtain ⟨RA, hH, hI, hJ⟩ := rload_hold Hw3.out hB hR hA); (have Hw4 := Aside0.mk (And.intro hH (And.intro hI (And.intro hJ hR)))); (have Bw4 := Aside0.mk (below_then Bw3.out Bw3.out.size hB)); clear hR hB hA hH hI hJ)
          refine ⟨HS9.out _ Bw4.out, ?_⟩
          try simp only [Act.put, List.setIfInBounds_toArray, List.set_cons_zero, List.set_cons_succ]
          have HT := Aside0.mk (show LT wd D g M A1 n1 c1 w4 from ⟨⟨RA, Hw4.out.1.drop (fun p hp => by rcases List.mem_cons.1 hp with rfl | hp; exact List.mem_append.2 (.inr List.mem_cons_self); exact List.mem_append.2 (.inl hp)), fun p hp => by have := (Hw4.out.2.1 p hp).1; have := HM.out.2; omega, Hw4.out.2.2.1⟩, Hw4.out.2.2.2, HM.out.1⟩)
          refine wpAnyM_take (i := 9) (v := ?_) (by simp only [List.getElem?_toArray, List.getElem?_cons_succ, List.getElem?_cons_zero]; rfl) (by kernel_rfl) (by kernel_rfl) (by kernel_rfl) (by kernel_rfl) (by exact fun _ _ _ h => h) (Or.inl ⟨by rfl, ?_⟩) (HS9.out _ Bw4.out) ?_
          rotate_left
          · (intro w' hSw; (try dsimp only at hSw); go_simp; try with_reducible rfl)
          try simp only [Act.put, List.setIfInBounds_toArray, List.set_cons_zero, List.set_cons_succ]
          refine wpAnyM_one (i := 10) (by kernel_rfl) (by simp only [List.getElem?_toArray, List.getElem?_cons_succ, List.getElem?_cons_zero]; rfl) ?_
          have hr := HT.out.row
          obtain ⟨z0, z1, z2, z3, z4, z5⟩ := row6_cells hr
          have yM := fun j => Go.Joins.unfrozen_of_block hr j
          have ho := only_set6 (W := w4) (g := M) (.int .i64 D.limit) (.slice A1 n1 c1) (.slice none 0 0) (.int .i64 D.ops) (.int .i64 D.fuse) (.bool D.down)
          have HL := Aside0.mk (HT.out.set ho (row6_set (.int .i64 D.limit) (.slice A1 n1 c1) (.slice none 0 0) (.int .i64 D.ops) (.int .i64 D.fuse) (.bool D.down) hr))
          have BZ := Aside0.mk (below_only Bw4.out ho HT.out.lo Bw4.out.size)
          clear hr ho
          go_wp2_with fail
          refine ⟨HS9.out _ Bw4.out, ?_⟩
          try simp only [Act.put, List.setIfInBounds_toArray, List.set_cons_zero, List.set_cons_succ]
          refine wpAnyM_done (by kernel_rfl) ?_ _
          refine ⟨g, M, A1, n1, c1, HL.out, ?_⟩
          rfl
      · skip
        have hz := (Below.refl _ wd).alloc (Nat.le_refl _) (.cells #[.int .i64 0, .slice none 0 0, .slice none 0 0, .int .i64 0, .int .i64 0, .bool false] 47)
        have Bw2 := Aside0.mk (below_then Bwd.out Bwd.out.size hz)
        have Hw2 := Aside0.mk (And.intro (heap_alloc_new wd (.cells #[.int .i64 0, .slice none 0 0, .slice none 0 0, .int .i64 0, .int .i64 0, .bool false] 47)) (And.intro hz (And.intro (Nat.le_refl wd.heap.size) (show wd.heap.size < (wd.alloc (.cells #[.int .i64 0, .slice none 0 0, .slice none 0 0, .int .i64 0, .int .i64 0, .bool false] 47)).heap.size by simp))))
        go_wp2_with fail
        refine ⟨HS9.out _ Bw2.out, ?_⟩
        obtain ⟨M, hM⟩ : ∃ X, wd.heap.size = X := ⟨_, rfl⟩
        obtain ⟨w2, hw2⟩ : ∃ X, wd.alloc (.cells #[.int .i64 0, .slice none 0 0, .slice none 0 0, .int .i64 0, .int .i64 0, .bool false] 47) = X := ⟨_, rfl⟩
        rw [hw2, hM] at Hw2
        rw [hw2] at Bw2
        rw [hw2, hM]
        have HME := Aside0.mk (Nat.le_of_eq hM)
        clear hz hM hw2
        try simp only [Act.put, List.setIfInBounds_toArray, List.set_cons_zero, List.set_cons_succ]
        have HM := Aside0.mk Hw2.out.2.2
        refine wpAnyM_one (i := 3) (by kernel_rfl) (by simp only [List.getElem?_toArray, List.getElem?_cons_succ, List.getElem?_cons_zero]; rfl) ?_
        go_wp2_with (go_at_call 18; refine (load_h (w0 := w2) A n c xs lim w2 (Hd.out.1.below Bw2.out) (by have := HN.out; omega) (Below.refl _ _)).mono ?_; rintro e w3a ⟨g, rfl, hH, hB⟩; rw [HDE.out] at hH; (have Hw3a := Aside0.mk hH); (have Bw3a := Aside0.mk (below_then Bw2.out Bw2.out.size hB)); clear hH hB)
        refine ⟨HS9.out _ Bw3a.out, ?_⟩
        try simp only [Act.put, List.setIfInBounds_toArray, List.set_cons_zero, List.set_cons_succ]
        have Hw3 := Aside0.mk (Hw3a.out.rebase Bw2.out M _ Hw2.out.1)
        have HM3 := Aside0.mk (Nat.lt_of_lt_of_le HM.out.2 Hw3a.out.bel.size)
        have Bw3 := Bw3a
        refine wpAnyM_one (i := 7) (by kernel_rfl) (by simp only [List.getElem?_toArray, List.getElem?_cons_succ, List.getElem?_cons_zero]; rfl) ?_
        obtain ⟨w3, hw3⟩ : ∃ X, w3a = X := ⟨_, rfl⟩
        rw [hw3] at Hw3 HM3 Bw3 ⊢
        go_wp2_with (go_at_call 20; refine (rload2_any A n c xs lim w3 (Hd.out.1.below Bw3.out) (by have := HN.out; omega)).mono ?_; rintro e w4 ⟨A1, n1, c1, rfl, hR, hB, hA⟩; rw [HDL.out] at hR; rw [HDL.out, show rv D A1 n1 c1 none 0 0 = #[.int .i64 D.limit, .slice A1 n1 c1, .slice none 0 0, .int .i64 D.ops, .int .i64 D.fuse, .bool D.down] from rfl]; (obtain ⟨RA, hH, hI, hJ⟩ := rload_hold Hw3.out hB hR hA); (have Hw4 := Aside0.mk (And.intro hH (And.intro hI (And.intro hJ hR)))); (have Bw4 := Aside0.mk (below_then Bw3.out Bw3.out.size hB)); clear hR hB hA hH hI hJ)
        refine ⟨HS9.out _ Bw4.out, ?_⟩
        try simp only [Act.put, List.setIfInBounds_toArray, List.set_cons_zero, List.set_cons_succ]
        have HT := Aside0.mk (show LT wd D g M A1 n1 c1 w4 from ⟨⟨RA, Hw4.out.1.drop (fun p hp => by rcases List.mem_cons.1 hp with rfl | hp; exact List.mem_append.2 (.inr List.mem_cons_self); exact List.mem_append.2 (.inl hp)), fun p hp => by have := (Hw4.out.2.1 p hp).1; have := HM3.out; omega, Hw4.out.2.2.1⟩, Hw4.out.2.2.2, HME.out⟩)
        refine wpAnyM_take (i := 9) (v := ?_) (by simp only [List.getElem?_toArray, List.getElem?_cons_succ, List.getElem?_cons_zero]; rfl) (by kernel_rfl) (by kernel_rfl) (by kernel_rfl) (by kernel_rfl) (by exact fun _ _ _ h => h) (Or.inl ⟨by rfl, ?_⟩) (HS9.out _ Bw4.out) ?_
        rotate_left
        · (intro w' hSw; (try dsimp only at hSw); go_simp; try with_reducible rfl)
        try simp only [Act.put, List.setIfInBounds_toArray, List.set_cons_zero, List.set_cons_succ]
        refine wpAnyM_one (i := 10) (by kernel_rfl) (by simp only [List.getElem?_toArray, List.getElem?_cons_succ, List.getElem?_cons_zero]; rfl) ?_
        have hr := HT.out.row
        obtain ⟨z0, z1, z2, z3, z4, z5⟩ := row6_cells hr
        have yM := fun j => Go.Joins.unfrozen_of_block hr j
        have ho := only_set6 (W := w4) (g := M) (.int .i64 D.limit) (.slice A1 n1 c1) (.slice none 0 0) (.int .i64 D.ops) (.int .i64 D.fuse) (.bool D.down)
        have HL := Aside0.mk (HT.out.set ho (row6_set (.int .i64 D.limit) (.slice A1 n1 c1) (.slice none 0 0) (.int .i64 D.ops) (.int .i64 D.fuse) (.bool D.down) hr))
        have BZ := Aside0.mk (below_only Bw4.out ho HT.out.lo Bw4.out.size)
        clear hr ho
        go_wp2_with fail
        refine ⟨HS9.out _ Bw4.out, ?_⟩
        try simp only [Act.put, List.setIfInBounds_toArray, List.set_cons_zero, List.set_cons_succ]
        refine wpAnyM_done (by kernel_rfl) ?_ _
        refine ⟨g, M, A1, n1, c1, HL.out, ?_⟩
        rfl
    case hq =>
      intro g M A1 n1 c1 w5 hLS
      have HLS := Aside0.mk hLS
      obtain ⟨RA, hdh, hne, hA⟩ := hLS.dh
      have H5 := Aside0.mk hdh
      have HNE := Aside0.mk hne
      have HRA := Aside0.mk hA
      clear hLS hdh hne hA
      go_upto_region 7 with (go_at_call 13; refine (pnew_h H5.out).mono ?_; rintro e w6 ⟨rfl, hH, hB⟩; (obtain ⟨gp, hgp⟩ : ∃ x, w5.heap.size = x := ⟨_, rfl⟩); (have HGP := Aside0.mk (show ∀ p ∈ (M, (.cells #[.int .i64 D.limit, .slice A1 n1 c1, .slice none 0 0, .int .i64 D.ops, .int .i64 D.fuse, .bool D.down] 47)) :: RA, p.1 < gp from fun p hp => by rw [← hgp]; exact H5.out.lt p hp)); rw [hgp] at hH; rw [hgp]; (have H6 := Aside0.mk hH); (have R6 := Aside0.mk (HLS.out.rm.below hB)); clear hH hB hgp)
      obtain ⟨y0, y1, y2, y3, y4, y5, y6, y7, y8, y9, y10⟩ := HYB.out _ H6.out.bel
      go_upto_region 8 with (go_at_call 21; refine (arm_h H6.out fu).mono ?_; rintro e w7 ⟨rfl, hH⟩; (have H7 := Aside0.mk hH); clear hH)
      clear y0 y1 y2 y3 y4 y5 y6 y7 y8 y9 y10
      have R7 := Aside0.mk (R6.out.keep (X := w7) (fun a ea h0 => by
        obtain ⟨o, ho⟩ := HRA.out h0 a ea
        exact (H7.out.row (List.mem_cons_of_mem _ (List.mem_cons_of_mem _ ho))).trans (H6.out.row (List.mem_cons_of_mem _ (List.mem_cons_of_mem _ ho))).symm))
      have cA := rarm2_any A1 n1 c1 none 0 0 [] D fu w7 R7.out
      obtain ⟨D1, hD1⟩ : ∃ x, armD D fu = x := ⟨_, rfl⟩
      rw [hD1] at H7
      unfold rv at cA
      rw [hD1] at cA
      have HD1 := Aside0.mk hD1
      clear hD1
      obtain ⟨y0, y1, y2, y3, y4, y5, y6, y7, y8, y9, y10⟩ := HYB.out _ H7.out.bel
      obtain ⟨x0, x1, x2, x3, x4, x5⟩ := row6_cells (H7.out.row (List.mem_cons_of_mem _ List.mem_cons_self))
      go_upto_region 9 with (go_at_call 22; refine cA.mono ?_; rintro e w8 ⟨rfl, hB⟩; (have H8 := Aside0.mk (H7.out.step hB)); (have R8 := Aside0.mk (R7.out.below hB)); clear x0 x1 x2 x3 x4 x5; (have hr := H8.out.row (List.mem_cons_of_mem _ List.mem_cons_self)); (obtain ⟨z0, z1, z2, z3, z4, z5⟩ := row6_cells hr); (have yM := fun j => Go.Joins.unfrozen_of_block hr j); clear hB hr)
      have hr := H8.out.row (i := M) (o := (.cells #[.int .i64 D.limit, .slice A1 n1 c1, .slice none 0 0, .int .i64 D.ops, .int .i64 D.fuse, .bool D.down] 47)) (List.mem_cons_of_mem _ List.mem_cons_self)
      have ho := only_set6 (W := w8) (g := M) (.int .i64 D1.limit) (.slice A1 n1 c1) (.slice none 0 0) (.int .i64 D1.ops) (.int .i64 D1.fuse) (.bool D1.down)
      have h9 := (H8.out.drop (R1 := (M, (.cells #[.int .i64 D.limit, .slice A1 n1 c1, .slice none 0 0, .int .i64 D.ops, .int .i64 D.fuse, .bool D.down] 47)) :: (gp, pgo g) :: RA) (fun p hp => by
        rcases List.mem_cons.1 hp with rfl | hp
        · exact List.mem_cons_of_mem _ List.mem_cons_self
        · rcases List.mem_cons.1 hp with rfl | hp
          · exact List.mem_cons_self
          · exact List.mem_cons_of_mem _ (List.mem_cons_of_mem _ hp))).turn ho HLS.out.lo (fun p hp => by
        rcases List.mem_cons.1 hp with rfl | hp
        · have := HGP.out (M, (.cells #[.int .i64 D.limit, .slice A1 n1 c1, .slice none 0 0, .int .i64 D.ops, .int .i64 D.fuse, .bool D.down] 47)) List.mem_cons_self
          show gp ≠ M
          exact Nat.ne_of_gt this
        · exact HNE.out p hp) (row6_set (.int .i64 D1.limit) (.slice A1 n1 c1) (.slice none 0 0) (.int .i64 D1.ops) (.int .i64 D1.fuse) (.bool D1.down) hr)
      have r9 := RM.stay6 hr (R8.out.turn (d1 := D1) (by rw [← HD1.out]; rfl) (by rw [← HD1.out]; rfl)) ho (fun q hq => by
        have e : D1.row = [] := by rw [← HD1.out, ← HDE.out]; rfl
        rw [e] at hq
        cases hq)
      obtain ⟨w9, hw9⟩ : ∃ X, ((((((w8.setCell ⟨M, 0, none⟩ (.int .i64 D1.limit)).setCell ⟨M, 1, none⟩ (.slice A1 n1 c1)).setCell ⟨M, 2, none⟩ (.slice none 0 0)).setCell ⟨M, 3, none⟩ (.int .i64 D1.ops)).setCell ⟨M, 4, none⟩ (.int .i64 D1.fuse)).setCell ⟨M, 5, none⟩ (.bool D1.down)) = X := ⟨_, rfl⟩
      rw [hw9] at h9 r9 ⊢
      have H9 := Aside0.mk h9
      have R9 := Aside0.mk r9
      clear hr ho h9 r9 hw9 cA y0 y1 y2 y3 y4 y5 y6 y7 y8 y9 y10 z0 z1 z2 z3 z4 z5 yM
      obtain ⟨y0, y1, y2, y3, y4, y5, y6, y7, y8, y9, y10⟩ := HYB.out _ H9.out.bel
      go_upto_region 10 with fail
      have h10 := H9.out.lit (.cells #[.int .i64 ge, .int .i64 ph, .int .i64 tg, .int .i64 tx, .int .i64 rt, .int .i64 pg, .int .i64 li, .slice A' cu.length c'] 36)
      have r10 := R9.out.below ((Below.refl _ w9).alloc (Nat.le_refl _) (.cells #[.int .i64 ge, .int .i64 ph, .int .i64 tg, .int .i64 tx, .int .i64 rt, .int .i64 pg, .int .i64 li, .slice A' cu.length c'] 36))
      obtain ⟨NM, hNM⟩ : ∃ X, w9.heap.size = X := ⟨_, rfl⟩
      obtain ⟨w10, hw10⟩ : ∃ X, w9.alloc (.cells #[.int .i64 ge, .int .i64 ph, .int .i64 tg, .int .i64 tx, .int .i64 rt, .int .i64 pg, .int .i64 li, .slice A' cu.length c'] 36) = X := ⟨_, rfl⟩
      have HNM := Aside0.mk (show ∀ p ∈ (M, (.cells #[.int .i64 D1.limit, .slice A1 n1 c1, .slice none 0 0, .int .i64 D1.ops, .int .i64 D1.fuse, .bool D1.down] 47)) :: (gp, pgo g) :: RA, p.1 < NM from fun p hp => by rw [← hNM]; exact H9.out.lt p hp)
      rw [hw10, hNM] at h10
      rw [hw10] at r10
      rw [hw10, hNM]
      have H10 := Aside0.mk h10
      have R10 := Aside0.mk r10
      clear h10 r10 hNM hw10 y0 y1 y2 y3 y4 y5 y6 y7 y8 y9 y10
      have HS8 := Aside0.mk (show ∀ w' : World, w'.heap[NM]? = some (.cells #[.int .i64 ge, .int .i64 ph, .int .i64 tg, .int .i64 tx, .int .i64 rt, .int .i64 pg, .int .i64 li, .slice A' cu.length c'] 36) → w'.cell? ⟨NM, 0, none⟩ = some (.int .i64 ge) ∧ w'.cell? ⟨NM, 1, none⟩ = some (.int .i64 ph) ∧ w'.cell? ⟨NM, 2, none⟩ = some (.int .i64 tg) ∧ w'.cell? ⟨NM, 3, none⟩ = some (.int .i64 tx) ∧ w'.cell? ⟨NM, 4, none⟩ = some (.int .i64 rt) ∧ w'.cell? ⟨NM, 5, none⟩ = some (.int .i64 pg) ∧ w'.cell? ⟨NM, 6, none⟩ = some (.int .i64 li) ∧ w'.cell? ⟨NM, 7, none⟩ = some (.slice A' cu.length c') from fun w' hX => row8_cells hX)
      obtain ⟨y0, y1, y2, y3, y4, y5, y6, y7, y8, y9, y10⟩ := HYB.out _ H10.out.bel
      have HAB := Aside0.mk (show AB D1 0 0 by
        have e : D1 = armD D fu := HD1.out.symm
        rw [e, ← HDE.out]
        refine ⟨Nat.le_refl _, Int.le_refl _, Int.le_refl _, ?_⟩
        show (if fu < -1 then -1 else fu) ≤ 9223372036854775807
        have := HB.out.2
        split <;> omega)
      have HRC := Aside0.mk (Hd.out.2.1.rc (by have := HFW.out.1; have := Hd.out.2.1.len; have := Hd.out.2.2.1.len; omega))
      have HKN := Aside0.mk (show kn ≤ 12 by have := HFW.out.1; have := Hd.out.2.1.len; have := Hd.out.2.2.1.len; omega)
      have HHS := Aside0.mk (Hs.since (w2 := wd) Hd.out.2.2.1 Hd.out.2.2.2.2.2.size)
      cases fmt with
      | false =>
        obtain ⟨⟨er, d2⟩, hfs⟩ : ∃ x, commitS D1 l ⟨ge, ph, tg, tx, rt, pg, li, cu⟩ = x := ⟨_, rfl⟩
        have HFS := Aside0.mk hfs
        go_upto_region 13 with fail
        clear hfs y0 y1 y2 y3 y4 y5 y6 y7 y8 y9 y10
        have hbd : Below w10.heap.size w10 w10.drew := below_drew (Below.refl _ _)
        have H11 := Aside0.mk (H10.out.step hbd)
        have R11 := Aside0.mk (R10.out.below hbd)
        obtain ⟨w11, hw11⟩ : ∃ X, w10.drew = X := ⟨_, rfl⟩
        rw [hw11] at H11 R11
        clear hbd
        refine wp_region_M (fun j => decide (j < 6)) (fun w' => w'.cell? ⟨NM, 0, none⟩ = some (.int .i64 ge) ∧ w'.cell? ⟨NM, 1, none⟩ = some (.int .i64 ph) ∧ w'.cell? ⟨NM, 2, none⟩ = some (.int .i64 tg) ∧ w'.cell? ⟨NM, 3, none⟩ = some (.int .i64 tx) ∧ w'.cell? ⟨NM, 4, none⟩ = some (.int .i64 rt) ∧ w'.cell? ⟨NM, 5, none⟩ = some (.int .i64 pg) ∧ w'.cell? ⟨NM, 6, none⟩ = some (.int .i64 li) ∧ w'.cell? ⟨NM, 7, none⟩ = some (.slice A' cu.length c')) (by kernel_rfl) ?_
        rw [hw11]
        clear hw11
        refine wpAnyM_take (i := 0) (v := ?_) (by simp only [List.getElem?_toArray, List.getElem?_cons_succ, List.getElem?_cons_zero]; rfl) (by kernel_rfl) (by kernel_rfl) (by kernel_rfl) (by kernel_rfl) (by exact fun _ _ _ h => h) (Or.inl ⟨by rfl, ?_⟩) (HS8.out _ (H11.out.row List.mem_cons_self)) ?_
        rotate_left
        · (intro w' hSw; (try dsimp only at hSw); go_simp; try with_reducible rfl)
        try simp only [Act.put, List.setIfInBounds_toArray, List.set_cons_zero, List.set_cons_succ]
        refine wpAnyM_take (i := 1) (v := ?_) (by simp only [List.getElem?_toArray, List.getElem?_cons_succ, List.getElem?_cons_zero]; rfl) (by kernel_rfl) (by kernel_rfl) (by kernel_rfl) (by kernel_rfl) (by exact fun _ _ _ h => h) (Or.inl ⟨by rfl, ?_⟩) (HS8.out _ (H11.out.row List.mem_cons_self)) ?_
        rotate_left
        · (intro w' hSw; (try dsimp only at hSw); go_simp; try with_reducible rfl)
        try simp only [Act.put, List.setIfInBounds_toArray, List.set_cons_zero, List.set_cons_succ]
        refine wpAnyM_take (i := 3) (v := ?_) (by simp only [List.getElem?_toArray, List.getElem?_cons_succ, List.getElem?_cons_zero]; rfl) (by kernel_rfl) (by kernel_rfl) (by kernel_rfl) (by kernel_rfl) (by exact fun _ _ _ h => h) (Or.inl ⟨by rfl, ?_⟩) (HS8.out _ (H11.out.row List.mem_cons_self)) ?_
        rotate_left
        · (intro w' hSw; (try dsimp only at hSw); go_simp; try with_reducible rfl)
        try simp only [Act.put, List.setIfInBounds_toArray, List.set_cons_zero, List.set_cons_succ]
        refine wpAnyM_one (i := 2) (by kernel_rfl) (by simp only [List.getElem?_toArray, List.getElem?_cons_succ, List.getElem?_cons_zero]; rfl) ?_
        go_wp2_with (go_at_call 15; refine (wof_any K kn kc hs w11 (HRC.out.below H11.out.bel) Hd.out.2.1.len).mono ?_; rintro e w12 ⟨K2, kc2, rfl, hO, hB⟩; (have H12 := Aside0.mk (H11.out.step hB)); (have R12 := Aside0.mk (R11.out.below hB)); (have O12 := Aside0.mk hO.rc); clear hO hB)
        refine ⟨HS8.out _ (H12.out.row List.mem_cons_self), ?_⟩
        try simp only [Act.put, List.setIfInBounds_toArray, List.set_cons_zero, List.set_cons_succ]
        refine wpAnyM_one (i := 4) (by kernel_rfl) (by simp only [List.getElem?_toArray, List.getElem?_cons_succ, List.getElem?_cons_zero]; rfl) ?_
        go_wp2_with (go_at_call 14; refine (commit_h H12.out (List.mem_cons_of_mem _ (List.mem_cons_of_mem _ List.mem_cons_self)) K2 kn kc2 hs l ⟨ge, ph, tg, tx, rt, pg, li, cu⟩ A' c' 0 0 O12.out ((HHS.out.up (fun p hp => by cases hp)).below H12.out.bel) Hd.out.2.1.len (Hd.out.2.2.2.1.below H12.out.bel) HAB.out (by have := HFW.out.2.1; omega) (by have := HKN.out; omega) (by have := HKN.out; omega) (by have := HFW.out.2.2.1; show pg ≤ 1000000; omega)).mono ?_; rintro e w13 ⟨rfl, hH⟩; rw [HFS.out] at hH; rw [HFS.out]; (have H13 := Aside0.mk (show DH wd g ((NM, .cells #[.int .i64 ge, .int .i64 ph, .int .i64 tg, .int .i64 tx, .int .i64 rt, .int .i64 pg, .int .i64 li, .slice A' cu.length c'] 36) :: (M, (.cells #[.int .i64 D1.limit, .slice A1 n1 c1, .slice none 0 0, .int .i64 D1.ops, .int .i64 D1.fuse, .bool D1.down] 47)) :: (gp, pgo g) :: RA) d2 w13 from hH)); clear hH)
        refine ⟨HS8.out _ (H13.out.row List.mem_cons_self), ?_⟩
        try simp only [Act.put, List.setIfInBounds_toArray, List.set_cons_zero, List.set_cons_succ]
        refine wpAnyM_take (i := 5) (v := ?_) (by simp only [List.getElem?_toArray, List.getElem?_cons_succ, List.getElem?_cons_zero]; rfl) (by kernel_rfl) (by kernel_rfl) (by kernel_rfl) (by kernel_rfl) (by exact fun _ _ _ h => h) (Or.inl ⟨by rfl, ?_⟩) (HS8.out _ (H13.out.row List.mem_cons_self)) ?_
        rotate_left
        · (intro w' hSw; (try dsimp only at hSw); go_simp; try with_reducible rfl)
        try simp only [Act.put, List.setIfInBounds_toArray, List.set_cons_zero, List.set_cons_succ]
        refine wpAnyM_done (by kernel_rfl) ?_ _
        have R13 := Aside0.mk (R12.out.keep (X := w13) (fun a ea h0 => by
          obtain ⟨o, ho⟩ := HRA.out h0 a ea
          exact (H13.out.row (List.mem_cons_of_mem _ (List.mem_cons_of_mem _ (List.mem_cons_of_mem _ ho)))).trans (H12.out.row (List.mem_cons_of_mem _ (List.mem_cons_of_mem _ (List.mem_cons_of_mem _ ho)))).symm))
        obtain ⟨y0, y1, y2, y3, y4, y5, y6, y7, y8, y9, y10⟩ := HYB.out _ H13.out.bel
        have HRB0 := Aside0.mk (show RB D1 0 0 by rw [← HD1.out, ← HDL.out]; exact lodD_rb xs lim fu HB.out.2.2)
        cases hR : prgB l ⟨ge, ph, tg, tx, rt, pg, li, cu⟩ with
        | false =>
          have HRR := Aside0.mk hR
          have HSZ9 := Aside0.mk (show nD D1 ≤ 65536 by have h2 := HRB0.out.lim; have h3 := HRB0.out.ok.lim; omega)
          clear hR
          obtain ⟨he, hd⟩ : 1 = er ∧ D1 = d2 := by
            have h := HFS.out
            rw [show commitS D1 l ⟨ge, ph, tg, tx, rt, pg, li, cu⟩ = (1, D1) from if_neg (by rw [HRR.out]; decide)] at h
            injection h with h1 h2
            exact ⟨h1, h2⟩
          subst he
          subst hd
          go_upto_region 17 with (go_at_call 10; refine (rpright_any K kn kc hs l ⟨ge, ph, tg, tx, rt, pg, li, cu⟩ A' c' w13 (HRC.out.below H13.out.bel) Hd.out.2.1.len HHS.out.hl hcl).mono ?_; rintro e w14 ⟨rfl, hB⟩; rw [HRR.out]; (have H14 := Aside0.mk (H13.out.step hB)); (have R14 := Aside0.mk (R13.out.below hB)); clear y0 y1 y2 y3 y4 y5 y6 y7 y8 y9 y10; (obtain ⟨y0, y1, y2, y3, y4, y5, y6, y7, y8, y9, y10⟩ := HYB.out _ H14.out.bel); (obtain ⟨v0, v1, v2, v3, v4, v5, v6, v7⟩ := HS8.out _ (H14.out.row List.mem_cons_self)); clear hB)
          clear y0 y1 y2 y3 y4 y5 y6 y7 y8 y9 y10 v0 v1 v2 v3 v4 v5 v6 v7
          have HLM := Aside0.mk (show D1.ok (nD D1) from H14.out.ok)
          obtain ⟨sz, hsz⟩ : ∃ x, nD D1 = x := ⟨_, rfl⟩
          obtain ⟨lm, hlm⟩ : ∃ x, D1.limit = x := ⟨_, rfl⟩
          have HSL := Aside0.mk (And.intro hsz hlm)
          have k1 : ((sz : Nat) : Int).tdiv 4 = ((sz / 4 : Nat) : Int) := by rw [Int.tdiv_eq_ediv_of_nonneg (by omega)]; omega
          have k2 : IntKind.i64.wrap ((sz / 4 : Nat) : Int) = ((sz / 4 : Nat) : Int) := IntWalk.i64_in _ (by have := H14.out.nlim; rw [hsz] at this; omega)
          have k8 : IntKind.i64.wrap ((sz : Int) / 4) = (sz : Int) / 4 := IntWalk.i64_in _ (by have := H14.out.nlim; rw [hsz] at this; omega)
          have k9 : ((sz : Int) / 4 == (sz : Int) / 4) = true := beq_self_eq_true _
          have k3 : (((sz / 4 : Nat) : Int) == ((sz / 4 : Nat) : Int)) = true := beq_self_eq_true _
          have k4 : lm.tdiv 4 = lm / 4 := Int.tdiv_eq_ediv_of_nonneg (by have := H14.out.ok.lim0; rw [hlm] at this; omega)
          have k5 : IntKind.i64.wrap (lm / 4) = lm / 4 := IntWalk.i64_in _ (by have := H14.out.ok.lim0; have := H14.out.ok.lim; rw [hlm] at *; omega)
          have k6 : (lm / 4 == lm / 4) = true := beq_self_eq_true _
          have k7 : (1 == 1) = true := beq_self_eq_true _
          clear hsz hlm
          have HS17 := Aside0.mk (show ∀ w' : World, w'.heap[NM]? = some (.cells #[.int .i64 ge, .int .i64 ph, .int .i64 tg, .int .i64 tx, .int .i64 rt, .int .i64 pg, .int .i64 li, .slice A' cu.length c'] 36) → w'.heap[M]? = some ((.cells #[.int .i64 D1.limit, .slice A1 n1 c1, .slice none 0 0, .int .i64 D1.ops, .int .i64 D1.fuse, .bool D1.down] 47)) → w'.cell? ⟨NM, 0, none⟩ = some (.int .i64 ge) ∧ w'.cell? ⟨NM, 1, none⟩ = some (.int .i64 ph) ∧ w'.cell? ⟨NM, 2, none⟩ = some (.int .i64 tg) ∧ w'.cell? ⟨NM, 3, none⟩ = some (.int .i64 tx) ∧ w'.cell? ⟨NM, 4, none⟩ = some (.int .i64 rt) ∧ w'.cell? ⟨NM, 5, none⟩ = some (.int .i64 pg) ∧ w'.cell? ⟨NM, 6, none⟩ = some (.int .i64 li) ∧ w'.cell? ⟨NM, 7, none⟩ = some (.slice A' cu.length c') ∧ w'.cell? ⟨M, 0, none⟩ = some (.int .i64 D1.limit) ∧ w'.cell? ⟨M, 1, none⟩ = some (.slice A1 n1 c1) ∧ w'.cell? ⟨M, 2, none⟩ = some (.slice none 0 0) ∧ w'.cell? ⟨M, 3, none⟩ = some (.int .i64 D1.ops) ∧ w'.cell? ⟨M, 4, none⟩ = some (.int .i64 D1.fuse) ∧ w'.cell? ⟨M, 5, none⟩ = some (.bool D1.down) from fun w' h1 h2 => by
            obtain ⟨a0, a1, a2, a3, a4, a5, a6, a7⟩ := row8_cells h1
            obtain ⟨b0, b1, b2, b3, b4, b5⟩ := row6_cells h2
            exact ⟨a0, a1, a2, a3, a4, a5, a6, a7, b0, b1, b2, b3, b4, b5⟩)
          have hbd : Below w14.heap.size w14 w14.drew := below_drew (Below.refl _ _)
          have T0 := Aside0.mk (H14.out.step hbd)
          have Q0 := Aside0.mk (R14.out.below hbd)
          obtain ⟨u0, hu0⟩ : ∃ X, w14.drew = X := ⟨_, rfl⟩
          rw [hu0] at T0 Q0
          clear hbd
          refine wp_region_M (fun j => decide (j < 36)) (fun w' => w'.cell? ⟨NM, 0, none⟩ = some (.int .i64 ge) ∧ w'.cell? ⟨NM, 1, none⟩ = some (.int .i64 ph) ∧ w'.cell? ⟨NM, 2, none⟩ = some (.int .i64 tg) ∧ w'.cell? ⟨NM, 3, none⟩ = some (.int .i64 tx) ∧ w'.cell? ⟨NM, 4, none⟩ = some (.int .i64 rt) ∧ w'.cell? ⟨NM, 5, none⟩ = some (.int .i64 pg) ∧ w'.cell? ⟨NM, 6, none⟩ = some (.int .i64 li) ∧ w'.cell? ⟨NM, 7, none⟩ = some (.slice A' cu.length c') ∧ w'.cell? ⟨M, 0, none⟩ = some (.int .i64 D1.limit) ∧ w'.cell? ⟨M, 1, none⟩ = some (.slice A1 n1 c1) ∧ w'.cell? ⟨M, 2, none⟩ = some (.slice none 0 0) ∧ w'.cell? ⟨M, 3, none⟩ = some (.int .i64 D1.ops) ∧ w'.cell? ⟨M, 4, none⟩ = some (.int .i64 D1.fuse) ∧ w'.cell? ⟨M, 5, none⟩ = some (.bool D1.down)) (by kernel_rfl) ?_
          rw [hu0]
          clear hu0
          refine wpAnyM_one (i := 0) (by kernel_rfl) (by simp only [List.getElem?_toArray, List.getElem?_cons_succ, List.getElem?_cons_zero]; rfl) ?_
          go_wp2_with (go_at_call 11; with_reducible refine (alive12_any u0).mono ?_; rintro e u1 ⟨rfl, hB⟩; (have T1 := Aside0.mk (T0.out.step hB)); (have Q1 := Aside0.mk (Q0.out.below hB)); clear hB)
          refine ⟨HS17.out _ (T1.out.row List.mem_cons_self) (T1.out.row (List.mem_cons_of_mem _ List.mem_cons_self)), ?_⟩
          try simp only [Act.put, List.setIfInBounds_toArray, List.set_cons_zero, List.set_cons_succ]
          refine wpAnyM_take (i := 1) (v := ?_) (by simp only [List.getElem?_toArray, List.getElem?_cons_succ, List.getElem?_cons_zero]; rfl) (by kernel_rfl) (by kernel_rfl) (by kernel_rfl) (by kernel_rfl) (by exact fun _ _ _ h => h) (Or.inl ⟨by rfl, ?_⟩) (HS17.out _ (T1.out.row List.mem_cons_self) (T1.out.row (List.mem_cons_of_mem _ List.mem_cons_self))) ?_
          rotate_left
          · (intro w' hSw; (try dsimp only at hSw); go_simp; try with_reducible rfl)
          try simp only [Act.put, List.setIfInBounds_toArray, List.set_cons_zero, List.set_cons_succ]
          refine wpAnyM_take (i := 2) (v := ?_) (by simp only [List.getElem?_toArray, List.getElem?_cons_succ, List.getElem?_cons_zero]; rfl) (by kernel_rfl) (by kernel_rfl) (by kernel_rfl) (by kernel_rfl) (by exact fun _ _ _ h => h) (Or.inl ⟨by rfl, ?_⟩) (HS17.out _ (T1.out.row List.mem_cons_self) (T1.out.row (List.mem_cons_of_mem _ List.mem_cons_self))) ?_
          rotate_left
          · (intro w' hSw; (try dsimp only at hSw); go_simp; try with_reducible rfl)
          try simp only [Act.put, List.setIfInBounds_toArray, List.set_cons_zero, List.set_cons_succ]
          refine wpAnyM_take (i := 4) (v := ?_) (by simp only [List.getElem?_toArray, List.getElem?_cons_succ, List.getElem?_cons_zero]; rfl) (by kernel_rfl) (by kernel_rfl) (by kernel_rfl) (by kernel_rfl) (by exact fun _ _ _ h => h) (Or.inl ⟨by rfl, ?_⟩) (HS17.out _ (T1.out.row List.mem_cons_self) (T1.out.row (List.mem_cons_of_mem _ List.mem_cons_self))) ?_
          rotate_left
          · (intro w' hSw; (try dsimp only at hSw); go_simp; try with_reducible rfl)
          try simp only [Act.put, List.setIfInBounds_toArray, List.set_cons_zero, List.set_cons_succ]
          refine wpAnyM_take (i := 6) (v := ?_) (by simp only [List.getElem?_toArray, List.getElem?_cons_succ, List.getElem?_cons_zero]; rfl) (by kernel_rfl) (by kernel_rfl) (by kernel_rfl) (by kernel_rfl) (by exact fun _ _ _ h => h) (Or.inl ⟨by rfl, ?_⟩) (HS17.out _ (T1.out.row List.mem_cons_self) (T1.out.row (List.mem_cons_of_mem _ List.mem_cons_self))) ?_
          rotate_left
          · (intro w' hSw; (try dsimp only at hSw); go_simp; try with_reducible rfl)
          try simp only [Act.put, List.setIfInBounds_toArray, List.set_cons_zero, List.set_cons_succ]
          refine wpAnyM_one (i := 3) (by kernel_rfl) (by simp only [List.getElem?_toArray, List.getElem?_cons_succ, List.getElem?_cons_zero]; rfl) ?_
          go_wp2_with (go_at_call 15; refine (wof_any K kn kc hs u1 (HRC.out.below T1.out.bel) Hd.out.2.1.len).mono ?_; rintro e u2 ⟨K9, kc9, rfl, hO, hB⟩; (have T2 := Aside0.mk (T1.out.step hB)); (have Q2 := Aside0.mk (Q1.out.below hB)); (have O2 := Aside0.mk hO.rc); clear hO hB)
          refine ⟨HS17.out _ (T2.out.row List.mem_cons_self) (T2.out.row (List.mem_cons_of_mem _ List.mem_cons_self)), ?_⟩
          try simp only [Act.put, List.setIfInBounds_toArray, List.set_cons_zero, List.set_cons_succ]
          refine wpAnyM_one (i := 5) (by kernel_rfl) (by simp only [List.getElem?_toArray, List.getElem?_cons_succ, List.getElem?_cons_zero]; rfl) ?_
          go_wp2_with (go_at_call 26; refine (pright_any K9 kn kc9 hs l ⟨ge, ph, tg, tx, rt, pg, li, cu⟩ A' c' u2 O2.out Hd.out.2.1.len HHS.out.hl (Hd.out.2.2.2.1.below T2.out.bel) (by have := HFW.out.2.2.1; show pg ≤ 1000000; omega)).mono ?_; rintro e u3 ⟨rfl, hB⟩; rw [HRR.out]; (have T3 := Aside0.mk (T2.out.step hB)); (have Q3 := Aside0.mk (Q2.out.below hB)); clear hB)
          refine ⟨HS17.out _ (T3.out.row List.mem_cons_self) (T3.out.row (List.mem_cons_of_mem _ List.mem_cons_self)), ?_⟩
          try simp only [Act.put, List.setIfInBounds_toArray, List.set_cons_zero, List.set_cons_succ]
          refine wpAnyM_take (i := 7) (v := ?_) (by simp only [List.getElem?_toArray, List.getElem?_cons_succ, List.getElem?_cons_zero]; rfl) (by kernel_rfl) (by kernel_rfl) (by kernel_rfl) (by kernel_rfl) (by exact fun _ _ _ h => h) (Or.inl ⟨by rfl, ?_⟩) (HS17.out _ (T3.out.row List.mem_cons_self) (T3.out.row (List.mem_cons_of_mem _ List.mem_cons_self))) ?_
          rotate_left
          · (intro w' hSw; (try dsimp only at hSw); go_simp; try with_reducible rfl)
          try simp only [Act.put, List.setIfInBounds_toArray, List.set_cons_zero, List.set_cons_succ]
          refine wpAnyM_take (i := 8) (v := ?_) (by simp only [List.getElem?_toArray, List.getElem?_cons_succ, List.getElem?_cons_zero]; rfl) (by kernel_rfl) (by kernel_rfl) (by kernel_rfl) (by kernel_rfl) (by exact fun _ _ _ h => h) (Or.inl ⟨by rfl, ?_⟩) (HS17.out _ (T3.out.row List.mem_cons_self) (T3.out.row (List.mem_cons_of_mem _ List.mem_cons_self))) ?_
          rotate_left
          · (intro w' hSw; (try dsimp only at hSw); go_simp; try with_reducible rfl)
          try simp only [Act.put, List.setIfInBounds_toArray, List.set_cons_zero, List.set_cons_succ]
          refine wpAnyM_take (i := 9) (v := ?_) (by simp only [List.getElem?_toArray, List.getElem?_cons_succ, List.getElem?_cons_zero]; rfl) (by kernel_rfl) (by kernel_rfl) (by kernel_rfl) (by kernel_rfl) (by exact fun _ _ _ h => h) (Or.inl ⟨by rfl, ?_⟩) (HS17.out _ (T3.out.row List.mem_cons_self) (T3.out.row (List.mem_cons_of_mem _ List.mem_cons_self))) ?_
          rotate_left
          · (intro w' hSw; (try dsimp only at hSw); go_simp; try with_reducible rfl)
          try simp only [Act.put, List.setIfInBounds_toArray, List.set_cons_zero, List.set_cons_succ]
          refine wpAnyM_take (i := 10) (v := ?_) (by simp only [List.getElem?_toArray, List.getElem?_cons_succ, List.getElem?_cons_zero]; rfl) (by kernel_rfl) (by kernel_rfl) (by kernel_rfl) (by kernel_rfl) (by exact fun _ _ _ h => h) (Or.inl ⟨by rfl, ?_⟩) (HS17.out _ (T3.out.row List.mem_cons_self) (T3.out.row (List.mem_cons_of_mem _ List.mem_cons_self))) ?_
          rotate_left
          · (intro w' hSw; (try dsimp only at hSw); go_simp; try with_reducible rfl)
          try simp only [Act.put, List.setIfInBounds_toArray, List.set_cons_zero, List.set_cons_succ]
          refine wpAnyM_take (i := 11) (v := ?_) (by simp only [List.getElem?_toArray, List.getElem?_cons_succ, List.getElem?_cons_zero]; rfl) (by kernel_rfl) (by kernel_rfl) (by kernel_rfl) (by kernel_rfl) (by exact fun _ _ _ h => h) (Or.inl ⟨by rfl, ?_⟩) (HS17.out _ (T3.out.row List.mem_cons_self) (T3.out.row (List.mem_cons_of_mem _ List.mem_cons_self))) ?_
          rotate_left
          · (intro w' hSw; (try dsimp only at hSw); go_simp; try with_reducible rfl)
          try simp only [Act.put, List.setIfInBounds_toArray, List.set_cons_zero, List.set_cons_succ]
          refine wpAnyM_take (i := 12) (v := ?_) (by simp only [List.getElem?_toArray, List.getElem?_cons_succ, List.getElem?_cons_zero]; rfl) (by kernel_rfl) (by kernel_rfl) (by kernel_rfl) (by kernel_rfl) (by exact fun _ _ _ h => h) (Or.inl ⟨by rfl, ?_⟩) (HS17.out _ (T3.out.row List.mem_cons_self) (T3.out.row (List.mem_cons_of_mem _ List.mem_cons_self))) ?_
          rotate_left
          · (intro w' hSw; (try dsimp only at hSw); go_simp; try with_reducible rfl)
          try simp only [Act.put, List.setIfInBounds_toArray, List.set_cons_zero, List.set_cons_succ]
          refine wpAnyM_take (i := 13) (v := ?_) (by simp only [List.getElem?_toArray, List.getElem?_cons_succ, List.getElem?_cons_zero]; rfl) (by kernel_rfl) (by kernel_rfl) (by kernel_rfl) (by kernel_rfl) (by exact fun _ _ _ h => h) (Or.inl ⟨by rfl, ?_⟩) (HS17.out _ (T3.out.row List.mem_cons_self) (T3.out.row (List.mem_cons_of_mem _ List.mem_cons_self))) ?_
          rotate_left
          · (intro w' hSw; (try dsimp only at hSw); go_simp; try with_reducible rfl)
          try simp only [Act.put, List.setIfInBounds_toArray, List.set_cons_zero, List.set_cons_succ]
          refine wpAnyM_take (i := 14) (v := ?_) (by simp only [List.getElem?_toArray, List.getElem?_cons_succ, List.getElem?_cons_zero]; rfl) (by kernel_rfl) (by kernel_rfl) (by kernel_rfl) (by kernel_rfl) (by exact fun _ _ _ h => h) (Or.inl ⟨by rfl, ?_⟩) (HS17.out _ (T3.out.row List.mem_cons_self) (T3.out.row (List.mem_cons_of_mem _ List.mem_cons_self))) ?_
          rotate_left
          · (intro w' hSw; (try dsimp only at hSw); go_simp; try with_reducible rfl)
          try simp only [Act.put, List.setIfInBounds_toArray, List.set_cons_zero, List.set_cons_succ]
          refine wpAnyM_take (i := 15) (v := ?_) (by simp only [List.getElem?_toArray, List.getElem?_cons_succ, List.getElem?_cons_zero]; rfl) (by kernel_rfl) (by kernel_rfl) (by kernel_rfl) (by kernel_rfl) (by exact fun _ _ _ h => h) (Or.inl ⟨by rfl, ?_⟩) (HS17.out _ (T3.out.row List.mem_cons_self) (T3.out.row (List.mem_cons_of_mem _ List.mem_cons_self))) ?_
          rotate_left
          · (intro w' hSw; (try dsimp only at hSw); go_simp; try with_reducible rfl)
          try simp only [Act.put, List.setIfInBounds_toArray, List.set_cons_zero, List.set_cons_succ]
          refine wpAnyM_take (i := 16) (v := ?_) (by simp only [List.getElem?_toArray, List.getElem?_cons_succ, List.getElem?_cons_zero]; rfl) (by kernel_rfl) (by kernel_rfl) (by kernel_rfl) (by kernel_rfl) (by exact fun _ _ _ h => h) (Or.inl ⟨by rfl, ?_⟩) (HS17.out _ (T3.out.row List.mem_cons_self) (T3.out.row (List.mem_cons_of_mem _ List.mem_cons_self))) ?_
          rotate_left
          · (intro w' hSw; (try dsimp only at hSw); go_simp; try with_reducible rfl)
          try simp only [Act.put, List.setIfInBounds_toArray, List.set_cons_zero, List.set_cons_succ]
          have cS := stands_h T3.out A1 n1 c1 none 0 0 [] Q3.out (by have h1 := Q3.out.bl.len; have h2 := T3.out.ok.len; have h3 := T3.out.nlim; rw [HSL.out.1] at h2 h3; have h4 := HSZ9.out; rw [HSL.out.1] at h4; omega)
          unfold rv at cS
          refine wpAnyM_one (i := 17) (by kernel_rfl) (by simp only [List.getElem?_toArray, List.getElem?_cons_succ, List.getElem?_cons_zero]; rfl) ?_
          go_wp2_with (go_at_call 27; go_loud (refine cS.mono ?_; rintro e u4 ⟨rfl, hB⟩; (have T4 := Aside0.mk (T3.out.step hB)); clear hB))
          refine ⟨HS17.out _ (T4.out.row List.mem_cons_self) (T4.out.row (List.mem_cons_of_mem _ List.mem_cons_self)), ?_⟩
          try simp only [Act.put, List.setIfInBounds_toArray, List.set_cons_zero, List.set_cons_succ]
          clear cS
          refine wpAnyM_take (i := 18) (v := ?_) (by simp only [List.getElem?_toArray, List.getElem?_cons_succ, List.getElem?_cons_zero]; rfl) (by kernel_rfl) (by kernel_rfl) (by kernel_rfl) (by kernel_rfl) (by exact fun _ _ _ h => h) (Or.inl ⟨by rfl, ?_⟩) (HS17.out _ (T4.out.row List.mem_cons_self) (T4.out.row (List.mem_cons_of_mem _ List.mem_cons_self))) ?_
          rotate_left
          · (intro w' hSw; (try dsimp only at hSw); go_simp; try with_reducible rfl)
          try simp only [Act.put, List.setIfInBounds_toArray, List.set_cons_zero, List.set_cons_succ]
          refine wpAnyM_take (i := 19) (v := ?_) (by simp only [List.getElem?_toArray, List.getElem?_cons_succ, List.getElem?_cons_zero]; rfl) (by kernel_rfl) (by kernel_rfl) (by kernel_rfl) (by kernel_rfl) (by exact fun _ _ _ h => h) (Or.inl ⟨by rfl, ?_⟩) (HS17.out _ (T4.out.row List.mem_cons_self) (T4.out.row (List.mem_cons_of_mem _ List.mem_cons_self))) ?_
          rotate_left
          · (intro w' hSw; (try dsimp only at hSw); go_simp; try with_reducible rfl)
          try simp only [Act.put, List.setIfInBounds_toArray, List.set_cons_zero, List.set_cons_succ]
          refine wpAnyM_take (i := 20) (v := ?_) (by simp only [List.getElem?_toArray, List.getElem?_cons_succ, List.getElem?_cons_zero]; rfl) (by kernel_rfl) (by kernel_rfl) (by kernel_rfl) (by kernel_rfl) (by exact fun _ _ _ h => h) (Or.inl ⟨by rfl, ?_⟩) (HS17.out _ (T4.out.row List.mem_cons_self) (T4.out.row (List.mem_cons_of_mem _ List.mem_cons_self))) ?_
          rotate_left
          · (intro w' hSw; (try dsimp only at hSw); go_simp; try with_reducible rfl)
          try simp only [Act.put, List.setIfInBounds_toArray, List.set_cons_zero, List.set_cons_succ]
          refine wpAnyM_take (i := 22) (v := ?_) (by simp only [List.getElem?_toArray, List.getElem?_cons_succ, List.getElem?_cons_zero]; rfl) (by kernel_rfl) (by kernel_rfl) (by kernel_rfl) (by kernel_rfl) (by exact fun _ _ _ h => h) (Or.inl ⟨by rfl, ?_⟩) (HS17.out _ (T4.out.row List.mem_cons_self) (T4.out.row (List.mem_cons_of_mem _ List.mem_cons_self))) ?_
          rotate_left
          · (intro w' hSw; (try dsimp only at hSw); go_simp; try with_reducible rfl)
          try simp only [Act.put, List.setIfInBounds_toArray, List.set_cons_zero, List.set_cons_succ]
          refine wpAnyM_one (i := 21) (by kernel_rfl) (by simp only [List.getElem?_toArray, List.getElem?_cons_succ, List.getElem?_cons_zero]; rfl) ?_
          go_wp2_with (go_at_call 28; refine (pages_h T4.out (List.mem_cons_of_mem _ (List.mem_cons_of_mem _ List.mem_cons_self))).mono ?_; rintro e u5 ⟨rfl, rfl⟩; rw [HSL.out.1])
          refine ⟨HS17.out _ (T4.out.row List.mem_cons_self) (T4.out.row (List.mem_cons_of_mem _ List.mem_cons_self)), ?_⟩
          try simp only [Act.put, List.setIfInBounds_toArray, List.set_cons_zero, List.set_cons_succ]
          refine wpAnyM_one (i := 23) (by kernel_rfl) (by simp only [List.getElem?_toArray, List.getElem?_cons_succ, List.getElem?_cons_zero]; rfl) ?_
          go_wp2_with (go_at_call 29; refine (size_h T4.out).mono ?_; rintro e u5 ⟨rfl, rfl⟩; rw [HSL.out.1])
          refine ⟨HS17.out _ (T4.out.row List.mem_cons_self) (T4.out.row (List.mem_cons_of_mem _ List.mem_cons_self)), ?_⟩
          try simp only [Act.put, List.setIfInBounds_toArray, List.set_cons_zero, List.set_cons_succ]
          refine wpAnyM_take (i := 24) (v := ?_) (by simp only [List.getElem?_toArray, List.getElem?_cons_succ, List.getElem?_cons_zero]; rfl) (by kernel_rfl) (by kernel_rfl) (by kernel_rfl) (by kernel_rfl) (by exact fun _ _ _ h => h) (Or.inl ⟨by rfl, ?_⟩) (HS17.out _ (T4.out.row List.mem_cons_self) (T4.out.row (List.mem_cons_of_mem _ List.mem_cons_self))) ?_
          rotate_left
          · (intro w' hSw; (try dsimp only at hSw); go_simp; try with_reducible rfl)
          try simp only [Act.put, List.setIfInBounds_toArray, List.set_cons_zero, List.set_cons_succ]
          refine wpAnyM_take (i := 25) (v := ?_) (by simp only [List.getElem?_toArray, List.getElem?_cons_succ, List.getElem?_cons_zero]; rfl) (by kernel_rfl) (by kernel_rfl) (by kernel_rfl) (by kernel_rfl) (by exact fun _ _ _ h => h) (Or.inl ⟨by rfl, ?_⟩) (HS17.out _ (T4.out.row List.mem_cons_self) (T4.out.row (List.mem_cons_of_mem _ List.mem_cons_self))) ?_
          rotate_left
          · (intro w' hSw; (try dsimp only at hSw); go_simp; try with_reducible rfl)
          try simp only [Act.put, List.setIfInBounds_toArray, List.set_cons_zero, List.set_cons_succ]
          refine wpAnyM_take (i := 26) (v := ?_) (by simp only [List.getElem?_toArray, List.getElem?_cons_succ, List.getElem?_cons_zero]; rfl) (by kernel_rfl) (by kernel_rfl) (by kernel_rfl) (by kernel_rfl) (by exact fun _ _ _ h => h) (Or.inl ⟨by rfl, ?_⟩) (HS17.out _ (T4.out.row List.mem_cons_self) (T4.out.row (List.mem_cons_of_mem _ List.mem_cons_self))) ?_
          rotate_left
          · (intro w' hSw; (try dsimp only at hSw); go_simp; try with_reducible rfl)
          try simp only [Act.put, List.setIfInBounds_toArray, List.set_cons_zero, List.set_cons_succ]
          refine wpAnyM_take (i := 27) (v := ?_) (by simp only [List.getElem?_toArray, List.getElem?_cons_succ, List.getElem?_cons_zero]; rfl) (by kernel_rfl) (by kernel_rfl) (by kernel_rfl) (by kernel_rfl) (by exact fun _ _ _ h => h) (Or.inl ⟨by rfl, ?_⟩) (HS17.out _ (T4.out.row List.mem_cons_self) (T4.out.row (List.mem_cons_of_mem _ List.mem_cons_self))) ?_
          rotate_left
          · (intro w' hSw; (try dsimp only at hSw); go_simp; try with_reducible rfl)
          try simp only [Act.put, List.setIfInBounds_toArray, List.set_cons_zero, List.set_cons_succ]
          refine wpAnyM_take (i := 28) (v := ?_) (by simp only [List.getElem?_toArray, List.getElem?_cons_succ, List.getElem?_cons_zero]; rfl) (by kernel_rfl) (by kernel_rfl) (by kernel_rfl) (by kernel_rfl) (by exact fun _ _ _ h => h) (Or.inl ⟨by rfl, ?_⟩) (HS17.out _ (T4.out.row List.mem_cons_self) (T4.out.row (List.mem_cons_of_mem _ List.mem_cons_self))) ?_
          rotate_left
          · (intro w' hSw; (try dsimp only at hSw); go_simp; try with_reducible rfl)
          try simp only [Act.put, List.setIfInBounds_toArray, List.set_cons_zero, List.set_cons_succ]
          refine wpAnyM_take (i := 30) (v := ?_) (by simp only [List.getElem?_toArray, List.getElem?_cons_succ, List.getElem?_cons_zero]; rfl) (by kernel_rfl) (by kernel_rfl) (by kernel_rfl) (by kernel_rfl) (by exact fun _ _ _ h => h) (Or.inl ⟨by rfl, ?_⟩) (HS17.out _ (T4.out.row List.mem_cons_self) (T4.out.row (List.mem_cons_of_mem _ List.mem_cons_self))) ?_
          rotate_left
          · (intro w' hSw; (try dsimp only at hSw); go_simp; try with_reducible rfl)
          try simp only [Act.put, List.setIfInBounds_toArray, List.set_cons_zero, List.set_cons_succ]
          refine wpAnyM_one (i := 29) (by kernel_rfl) (by simp only [List.getElem?_toArray, List.getElem?_cons_succ, List.getElem?_cons_zero]; rfl) ?_
          go_wp2_with (go_at_call 30; refine (plimit_h T4.out (List.mem_cons_of_mem _ (List.mem_cons_of_mem _ List.mem_cons_self))).mono ?_; rintro e u5 ⟨rfl, rfl⟩; rw [HSL.out.2])
          refine ⟨HS17.out _ (T4.out.row List.mem_cons_self) (T4.out.row (List.mem_cons_of_mem _ List.mem_cons_self)), ?_⟩
          try simp only [Act.put, List.setIfInBounds_toArray, List.set_cons_zero, List.set_cons_succ]
          refine wpAnyM_one (i := 31) (by kernel_rfl) (by simp only [List.getElem?_toArray, List.getElem?_cons_succ, List.getElem?_cons_zero]; rfl) ?_
          go_wp2_with (go_at_call 31; refine (limit_h T4.out).mono ?_; rintro e u5 ⟨rfl, rfl⟩; rw [HSL.out.2])
          refine ⟨HS17.out _ (T4.out.row List.mem_cons_self) (T4.out.row (List.mem_cons_of_mem _ List.mem_cons_self)), ?_⟩
          try simp only [Act.put, List.setIfInBounds_toArray, List.set_cons_zero, List.set_cons_succ]
          refine wpAnyM_take (i := 32) (v := ?_) (by simp only [List.getElem?_toArray, List.getElem?_cons_succ, List.getElem?_cons_zero]; rfl) (by kernel_rfl) (by kernel_rfl) (by kernel_rfl) (by kernel_rfl) (by exact fun _ _ _ h => h) (Or.inl ⟨by rfl, ?_⟩) (HS17.out _ (T4.out.row List.mem_cons_self) (T4.out.row (List.mem_cons_of_mem _ List.mem_cons_self))) ?_
          rotate_left
          · (intro w' hSw; (try dsimp only at hSw); go_simp; try with_reducible rfl)
          try simp only [Act.put, List.setIfInBounds_toArray, List.set_cons_zero, List.set_cons_succ]
          refine wpAnyM_take (i := 33) (v := ?_) (by simp only [List.getElem?_toArray, List.getElem?_cons_succ, List.getElem?_cons_zero]; rfl) (by kernel_rfl) (by kernel_rfl) (by kernel_rfl) (by kernel_rfl) (by exact fun _ _ _ h => h) (Or.inl ⟨by rfl, ?_⟩) (HS17.out _ (T4.out.row List.mem_cons_self) (T4.out.row (List.mem_cons_of_mem _ List.mem_cons_self))) ?_
          rotate_left
          · (intro w' hSw; (try dsimp only at hSw); go_simp; try with_reducible rfl)
          try simp only [Act.put, List.setIfInBounds_toArray, List.set_cons_zero, List.set_cons_succ]
          refine wpAnyM_take (i := 34) (v := ?_) (by simp only [List.getElem?_toArray, List.getElem?_cons_succ, List.getElem?_cons_zero]; rfl) (by kernel_rfl) (by kernel_rfl) (by kernel_rfl) (by kernel_rfl) (by exact fun _ _ _ h => h) (Or.inl ⟨by rfl, ?_⟩) (HS17.out _ (T4.out.row List.mem_cons_self) (T4.out.row (List.mem_cons_of_mem _ List.mem_cons_self))) ?_
          rotate_left
          · (intro w' hSw; (try dsimp only at hSw); go_simp; try with_reducible rfl)
          try simp only [Act.put, List.setIfInBounds_toArray, List.set_cons_zero, List.set_cons_succ]
          refine wpAnyM_take (i := 35) (v := ?_) (by simp only [List.getElem?_toArray, List.getElem?_cons_succ, List.getElem?_cons_zero]; rfl) (by kernel_rfl) (by kernel_rfl) (by kernel_rfl) (by kernel_rfl) (by exact fun _ _ _ h => h) (Or.inl ⟨by rfl, ?_⟩) (HS17.out _ (T4.out.row List.mem_cons_self) (T4.out.row (List.mem_cons_of_mem _ List.mem_cons_self))) ?_
          rotate_left
          · (intro w' hSw; (try dsimp only at hSw); go_simp; try with_reducible rfl)
          try simp only [Act.put, List.setIfInBounds_toArray, List.set_cons_zero, List.set_cons_succ]
          refine wpAnyM_done (by kernel_rfl) ?_ _
          go_wp2_with fail
          go_ret
          rw [hN'.out]
          exact ⟨rfl, by have h := below_then Hd.out.2.2.2.2.2 (by rw [← hN'.out]; exact Hd.out.2.2.2.2.2.size) T4.out.bel; exact h⟩
        | true =>
          have HRR := Aside0.mk hR
          clear hR
          go_upto_region 16 with (go_at_call 10; refine (rpright_any K kn kc hs l ⟨ge, ph, tg, tx, rt, pg, li, cu⟩ A' c' w13 (HRC.out.below H13.out.bel) Hd.out.2.1.len HHS.out.hl hcl).mono ?_; rintro e w14 ⟨rfl, hB⟩; rw [HRR.out]; (have H14 := Aside0.mk (H13.out.step hB)); (have R14 := Aside0.mk (R13.out.below hB)); clear y0 y1 y2 y3 y4 y5 y6 y7 y8 y9 y10; (obtain ⟨y0, y1, y2, y3, y4, y5, y6, y7, y8, y9, y10⟩ := HYB.out _ H14.out.bel); (obtain ⟨v0, v1, v2, v3, v4, v5, v6, v7⟩ := HS8.out _ (H14.out.row List.mem_cons_self)); clear hB)
          clear y0 y1 y2 y3 y4 y5 y6 y7 y8 y9 y10 v0 v1 v2 v3 v4 v5 v6 v7
          have HFE := Aside0.mk (show runS D1 (opsL l ⟨ge, ph, tg, tx, rt, pg, li, cu⟩ false) = (er, d2) from (run_ops HRR.out (fun q => by cases q)).trans (by rw [if_neg (by decide)]; exact HFS.out))
          have HSUM := Aside0.mk (ops_sum (l := l) (m := ⟨ge, ph, tg, tx, rt, pg, li, cu⟩) (fmt := false) HRR.out (fun q => by cases q))
          have HRUN := Aside0.mk (RB.run HRB0.out (opsL l ⟨ge, ph, tg, tx, rt, pg, li, cu⟩ false))
          have HWS := Aside0.mk (show ∀ X : World, Below wd.heap.size wd X → HWs X hs l from fun X hX => (HHS.out.below hX).hws (fun q hq => by have h1 := prgB_mem HRR.out q hq; have h2 := HFW.out.2.2.1; have h3 : q.1 ≤ pg := h1.2.1; omega))
          have HS16 := Aside0.mk (show ∀ w' : World, w'.heap[M]? = some ((.cells #[.int .i64 D1.limit, .slice A1 n1 c1, .slice none 0 0, .int .i64 D1.ops, .int .i64 D1.fuse, .bool D1.down] 47)) → Below wd.heap.size wd w' → w'.cell? ⟨M, 0, none⟩ = some (.int .i64 D1.limit) ∧ w'.cell? ⟨M, 1, none⟩ = some (.slice A1 n1 c1) ∧ w'.cell? ⟨M, 2, none⟩ = some (.slice none 0 0) ∧ w'.cell? ⟨M, 3, none⟩ = some (.int .i64 D1.ops) ∧ w'.cell? ⟨M, 4, none⟩ = some (.int .i64 D1.fuse) ∧ w'.cell? ⟨M, 5, none⟩ = some (.bool D1.down) ∧ w'.cell? ⟨N5, 0, none⟩ = some (.int .i64 ge) ∧ w'.cell? ⟨N5, 1, none⟩ = some (.int .i64 ph) ∧ w'.cell? ⟨N5, 2, none⟩ = some (.int .i64 tg) ∧ w'.cell? ⟨N5, 3, none⟩ = some (.int .i64 tx) ∧ w'.cell? ⟨N5, 4, none⟩ = some (.int .i64 rt) ∧ w'.cell? ⟨N5, 5, none⟩ = some (.int .i64 pg) ∧ w'.cell? ⟨N5, 6, none⟩ = some (.int .i64 li) ∧ w'.cell? ⟨N5, 7, none⟩ = some (.slice A' cu.length c') ∧ w'.cell? ⟨N5, 8, none⟩ = some (.bool false) ∧ w'.cell? ⟨N5, 9, none⟩ = some (.int .i64 lim) ∧ w'.cell? ⟨N5, 10, none⟩ = some (.int .i64 fu) from fun w' h1 h2 => by
            obtain ⟨b0, b1, b2, b3, b4, b5⟩ := row6_cells h1
            have b6 := HYB.out w' h2
            exact ⟨b0, b1, b2, b3, b4, b5, b6⟩)
          have hbd : Below w14.heap.size w14 w14.drew := below_drew (Below.refl _ _)
          have T0 := Aside0.mk (H14.out.step hbd)
          have Q0 := Aside0.mk (R14.out.below hbd)
          obtain ⟨p0, hp0⟩ : ∃ X, w14.drew = X := ⟨_, rfl⟩
          rw [hp0] at T0 Q0
          clear hbd
          refine wp_region_M (fun j => decide (j < 9)) (fun w' => w'.cell? ⟨M, 0, none⟩ = some (.int .i64 D1.limit) ∧ w'.cell? ⟨M, 1, none⟩ = some (.slice A1 n1 c1) ∧ w'.cell? ⟨M, 2, none⟩ = some (.slice none 0 0) ∧ w'.cell? ⟨M, 3, none⟩ = some (.int .i64 D1.ops) ∧ w'.cell? ⟨M, 4, none⟩ = some (.int .i64 D1.fuse) ∧ w'.cell? ⟨M, 5, none⟩ = some (.bool D1.down) ∧ w'.cell? ⟨N5, 0, none⟩ = some (.int .i64 ge) ∧ w'.cell? ⟨N5, 1, none⟩ = some (.int .i64 ph) ∧ w'.cell? ⟨N5, 2, none⟩ = some (.int .i64 tg) ∧ w'.cell? ⟨N5, 3, none⟩ = some (.int .i64 tx) ∧ w'.cell? ⟨N5, 4, none⟩ = some (.int .i64 rt) ∧ w'.cell? ⟨N5, 5, none⟩ = some (.int .i64 pg) ∧ w'.cell? ⟨N5, 6, none⟩ = some (.int .i64 li) ∧ w'.cell? ⟨N5, 7, none⟩ = some (.slice A' cu.length c') ∧ w'.cell? ⟨N5, 8, none⟩ = some (.bool false) ∧ w'.cell? ⟨N5, 9, none⟩ = some (.int .i64 lim) ∧ w'.cell? ⟨N5, 10, none⟩ = some (.int .i64 fu)) (by kernel_rfl) ?_
          rw [hp0]
          clear hp0
          refine wpAnyM_take (i := 0) (v := ?_) (by simp only [List.getElem?_toArray, List.getElem?_cons_succ, List.getElem?_cons_zero]; rfl) (by kernel_rfl) (by kernel_rfl) (by kernel_rfl) (by kernel_rfl) (by exact fun _ _ _ h => h) (Or.inl ⟨by rfl, ?_⟩) (HS16.out _ (T0.out.row (List.mem_cons_of_mem _ List.mem_cons_self)) T0.out.bel) ?_
          rotate_left
          · (intro w' hSw; (try dsimp only at hSw); go_simp; try with_reducible rfl)
          try simp only [Act.put, List.setIfInBounds_toArray, List.set_cons_zero, List.set_cons_succ]
          refine wpAnyM_take (i := 1) (v := ?_) (by simp only [List.getElem?_toArray, List.getElem?_cons_succ, List.getElem?_cons_zero]; rfl) (by kernel_rfl) (by kernel_rfl) (by kernel_rfl) (by kernel_rfl) (by exact fun _ _ _ h => h) (Or.inl ⟨by rfl, ?_⟩) (HS16.out _ (T0.out.row (List.mem_cons_of_mem _ List.mem_cons_self)) T0.out.bel) ?_
          rotate_left
          · (intro w' hSw; (try dsimp only at hSw); go_simp; try with_reducible rfl)
          try simp only [Act.put, List.setIfInBounds_toArray, List.set_cons_zero, List.set_cons_succ]
          refine wpAnyM_take (i := 2) (v := ?_) (by simp only [List.getElem?_toArray, List.getElem?_cons_succ, List.getElem?_cons_zero]; rfl) (by kernel_rfl) (by kernel_rfl) (by kernel_rfl) (by kernel_rfl) (by exact fun _ _ _ h => h) (Or.inl ⟨by rfl, ?_⟩) (HS16.out _ (T0.out.row (List.mem_cons_of_mem _ List.mem_cons_self)) T0.out.bel) ?_
          rotate_left
          · (intro w' hSw; (try dsimp only at hSw); go_simp; try with_reducible rfl)
          try simp only [Act.put, List.setIfInBounds_toArray, List.set_cons_zero, List.set_cons_succ]
          refine wpAnyM_take (i := 3) (v := ?_) (by simp only [List.getElem?_toArray, List.getElem?_cons_succ, List.getElem?_cons_zero]; rfl) (by kernel_rfl) (by kernel_rfl) (by kernel_rfl) (by kernel_rfl) (by exact fun _ _ _ h => h) (Or.inl ⟨by rfl, ?_⟩) (HS16.out _ (T0.out.row (List.mem_cons_of_mem _ List.mem_cons_self)) T0.out.bel) ?_
          rotate_left
          · (intro w' hSw; (try dsimp only at hSw); go_simp; try with_reducible rfl)
          try simp only [Act.put, List.setIfInBounds_toArray, List.set_cons_zero, List.set_cons_succ]
          refine wpAnyM_take (i := 4) (v := ?_) (by simp only [List.getElem?_toArray, List.getElem?_cons_succ, List.getElem?_cons_zero]; rfl) (by kernel_rfl) (by kernel_rfl) (by kernel_rfl) (by kernel_rfl) (by exact fun _ _ _ h => h) (Or.inl ⟨by rfl, ?_⟩) (HS16.out _ (T0.out.row (List.mem_cons_of_mem _ List.mem_cons_self)) T0.out.bel) ?_
          rotate_left
          · (intro w' hSw; (try dsimp only at hSw); go_simp; try with_reducible rfl)
          try simp only [Act.put, List.setIfInBounds_toArray, List.set_cons_zero, List.set_cons_succ]
          refine wpAnyM_take (i := 5) (v := ?_) (by simp only [List.getElem?_toArray, List.getElem?_cons_succ, List.getElem?_cons_zero]; rfl) (by kernel_rfl) (by kernel_rfl) (by kernel_rfl) (by kernel_rfl) (by exact fun _ _ _ h => h) (Or.inl ⟨by rfl, ?_⟩) (HS16.out _ (T0.out.row (List.mem_cons_of_mem _ List.mem_cons_self)) T0.out.bel) ?_
          rotate_left
          · (intro w' hSw; (try dsimp only at hSw); go_simp; try with_reducible rfl)
          try simp only [Act.put, List.setIfInBounds_toArray, List.set_cons_zero, List.set_cons_succ]
          refine wpAnyM_one (i := 6) (by kernel_rfl) (by simp only [List.getElem?_toArray, List.getElem?_cons_succ, List.getElem?_cons_zero]; rfl) ?_
          go_wp2_with (go_at_call 25; refine (rops_commit K kn kc hs l ⟨ge, ph, tg, tx, rt, pg, li, cu⟩ A' c' p0 (HRC.out.below T0.out.bel) Hd.out.2.1.len (HWS.out _ T0.out.bel) (Hd.out.2.2.2.1.below T0.out.bel) (right_of HRR.out) (by have := HKN.out; omega)).mono ?_; rintro e p1 ⟨O9, on, oc, qs, rfl, hO, hQ, hq, hB⟩; (have T1 := Aside0.mk (T0.out.step hB)); (have Q1 := Aside0.mk (Q0.out.below hB)); (have O1 := Aside0.mk (And.intro hO (And.intro hQ hq))); clear hB hO hQ hq)
          refine ⟨HS16.out _ (T1.out.row (List.mem_cons_of_mem _ List.mem_cons_self)) T1.out.bel, ?_⟩
          try simp only [Act.put, List.setIfInBounds_toArray, List.set_cons_zero, List.set_cons_succ]
          have cR := rrun_any A1 n1 c1 none 0 0 [] D1 p1 O9 on oc qs (opsL l ⟨ge, ph, tg, tx, rt, pg, li, cu⟩ false) 0 0 Q1.out HRB0.out O1.out.1 O1.out.2.1 O1.out.2.2 (by rw [HSUM.out.1]; have := HFW.out.2.1; omega) (by have h1 := O1.out.2.1.len; have h2 := O1.out.2.2; have h3 := HSUM.out.2; have h4 := HFW.out.1; omega)
          rw [HFE.out] at cR
          unfold rv at cR
          refine wpAnyM_one (i := 7) (by kernel_rfl) (by simp only [List.getElem?_toArray, List.getElem?_cons_succ, List.getElem?_cons_zero]; rfl) ?_
          go_wp2_with (go_at_call 24; refine cR.mono ?_; rintro e p2 ⟨A9, n9, c9, B9, m9, e9, hs9, rfl, hR, hB⟩; unfold rv; (have T2 := Aside0.mk (T1.out.step hB)); (have Q2 := Aside0.mk hR); clear hB hR)
          refine ⟨HS16.out _ (T2.out.row (List.mem_cons_of_mem _ List.mem_cons_self)) T2.out.bel, ?_⟩
          try simp only [Act.put, List.setIfInBounds_toArray, List.set_cons_zero, List.set_cons_succ]
          clear cR
          refine wpAnyM_take (i := 8) (v := ?_) (by simp only [List.getElem?_toArray, List.getElem?_cons_succ, List.getElem?_cons_zero]; rfl) (by kernel_rfl) (by kernel_rfl) (by kernel_rfl) (by kernel_rfl) (by exact fun _ _ _ h => h) (Or.inl ⟨by rfl, ?_⟩) (HS16.out _ (T2.out.row (List.mem_cons_of_mem _ List.mem_cons_self)) T2.out.bel) ?_
          rotate_left
          · (intro w' hSw; (try dsimp only at hSw); go_simp; try with_reducible rfl)
          try simp only [Act.put, List.setIfInBounds_toArray, List.set_cons_zero, List.set_cons_succ]
          refine wpAnyM_take0 (i := 9) (v := ?_) (by simp only [List.getElem?_toArray, List.getElem?_cons_succ, List.getElem?_cons_zero]; rfl) (by kernel_rfl) (by kernel_rfl) (by kernel_rfl) (by rfl) (by exact fun _ _ _ h => h) (Or.inl ⟨by rfl, ?_⟩) ?_
          rotate_left
          · (intro w' _; go_simp; try with_reducible rfl)
          try simp only [Act.put, List.setIfInBounds_toArray, List.set_cons_zero, List.set_cons_succ]
          refine wpAnyM_take0 (i := 10) (v := ?_) (by simp only [List.getElem?_toArray, List.getElem?_cons_succ, List.getElem?_cons_zero]; rfl) (by kernel_rfl) (by kernel_rfl) (by kernel_rfl) (by rfl) (by exact fun _ _ _ h => h) (Or.inl ⟨by rfl, ?_⟩) ?_
          rotate_left
          · (intro w' _; go_simp; try with_reducible rfl)
          try simp only [Act.put, List.setIfInBounds_toArray, List.set_cons_zero, List.set_cons_succ]
          have hr := T2.out.row (List.mem_cons_of_mem _ List.mem_cons_self)
          obtain ⟨z0, z1, z2, z3, z4, z5⟩ := row6_cells hr
          have yM := fun j => Go.Joins.unfrozen_of_block hr j
          refine wpAnyM_one (i := 11) (by kernel_rfl) (by simp only [List.getElem?_toArray, List.getElem?_cons_succ, List.getElem?_cons_zero]; rfl) ?_
          go_wp2_with fail
          have ho := only_set6 (W := p2) (g := M) (.int .i64 d2.limit) (.slice A9 n9 c9) (.slice B9 m9 e9) (.int .i64 d2.ops) (.int .i64 d2.fuse) (.bool d2.down)
          have HRD := Aside0.mk (show RB d2 (0 + ((opsL l ⟨ge, ph, tg, tx, rt, pg, li, cu⟩ false).map fun q => q.2.2.length).sum) (0 + (opsL l ⟨ge, ph, tg, tx, rt, pg, li, cu⟩ false).length) ∧ d2.limit = D1.limit by have h := HRUN.out; rw [HFE.out] at h; exact h)
          have h15 := (T2.out.drop (R1 := (M, (.cells #[.int .i64 D1.limit, .slice A1 n1 c1, .slice none 0 0, .int .i64 D1.ops, .int .i64 D1.fuse, .bool D1.down] 47)) :: (NM, .cells #[.int .i64 ge, .int .i64 ph, .int .i64 tg, .int .i64 tx, .int .i64 rt, .int .i64 pg, .int .i64 li, .slice A' cu.length c'] 36) :: (gp, pgo g) :: RA) (fun p hp => by
            rcases List.mem_cons.1 hp with rfl | hp
            · exact List.mem_cons_of_mem _ List.mem_cons_self
            · rcases List.mem_cons.1 hp with rfl | hp
              · exact List.mem_cons_self
              · exact List.mem_cons_of_mem _ (List.mem_cons_of_mem _ hp))).turn ho HLS.out.lo (fun p hp => by
            rcases List.mem_cons.1 hp with rfl | hp
            · have := HNM.out (M, (.cells #[.int .i64 D1.limit, .slice A1 n1 c1, .slice none 0 0, .int .i64 D1.ops, .int .i64 D1.fuse, .bool D1.down] 47)) List.mem_cons_self
              show NM ≠ M
              exact Nat.ne_of_gt this
            · rcases List.mem_cons.1 hp with rfl | hp
              · have := HGP.out (M, (.cells #[.int .i64 D.limit, .slice A1 n1 c1, .slice none 0 0, .int .i64 D.ops, .int .i64 D.fuse, .bool D.down] 47)) List.mem_cons_self
                show gp ≠ M
                exact Nat.ne_of_gt this
              · exact HNE.out p hp) (row6_set (.int .i64 d2.limit) (.slice A9 n9 c9) (.slice B9 m9 e9) (.int .i64 d2.ops) (.int .i64 d2.fuse) (.bool d2.down) hr)
          have r15 := RM.stay6 hr Q2.out ho (fun q hq hL => by
            have h1 := (HRD.out.1.ok.each q hq).2
            have h2 := HRD.out.1.lim
            have h3 := HRD.out.2
            omega)
          obtain ⟨p3, hp3⟩ : ∃ X, ((((((p2.setCell ⟨M, 0, none⟩ (.int .i64 d2.limit)).setCell ⟨M, 1, none⟩ (.slice A9 n9 c9)).setCell ⟨M, 2, none⟩ (.slice B9 m9 e9)).setCell ⟨M, 3, none⟩ (.int .i64 d2.ops)).setCell ⟨M, 4, none⟩ (.int .i64 d2.fuse)).setCell ⟨M, 5, none⟩ (.bool d2.down)) = X := ⟨_, rfl⟩
          rw [hp3] at h15 r15 ⊢
          have H15 := Aside0.mk h15
          have R15 := Aside0.mk r15
          clear hr ho h15 r15 hp3 z0 z1 z2 z3 z4 z5 yM
          try simp only [Act.put, List.setIfInBounds_toArray, List.set_cons_zero, List.set_cons_succ]
          refine wpAnyM_take0 (i := 12) (v := ?_) (by simp only [List.getElem?_toArray, List.getElem?_cons_succ, List.getElem?_cons_zero]; rfl) (by kernel_rfl) (by kernel_rfl) (by kernel_rfl) (by rfl) (by exact fun _ _ _ h => h) (Or.inl ⟨by rfl, ?_⟩) ?_
          rotate_left
          · (intro w' _; go_simp; try with_reducible rfl)
          try simp only [Act.put, List.setIfInBounds_toArray, List.set_cons_zero, List.set_cons_succ]
          refine wpAnyM_done (by kernel_rfl) ?_ _
          go_upto_region 17 with fail
          have HSZ9 := Aside0.mk (show nD d2 ≤ 65536 by have h2 := HRD.out.1.lim; have h3 := HRD.out.1.ok.lim; omega)
          obtain ⟨sz, hsz⟩ : ∃ x, nD d2 = x := ⟨_, rfl⟩
          obtain ⟨lm, hlm⟩ : ∃ x, d2.limit = x := ⟨_, rfl⟩
          have HSL := Aside0.mk (And.intro hsz hlm)
          have k1 : ((sz : Nat) : Int).tdiv 4 = ((sz / 4 : Nat) : Int) := by rw [Int.tdiv_eq_ediv_of_nonneg (by omega)]; omega
          have k2 : IntKind.i64.wrap ((sz / 4 : Nat) : Int) = ((sz / 4 : Nat) : Int) := IntWalk.i64_in _ (by have := H15.out.nlim; rw [hsz] at this; omega)
          have k8 : IntKind.i64.wrap ((sz : Int) / 4) = (sz : Int) / 4 := IntWalk.i64_in _ (by have := H15.out.nlim; rw [hsz] at this; omega)
          have k9 : ((sz : Int) / 4 == (sz : Int) / 4) = true := beq_self_eq_true _
          have k3 : (((sz / 4 : Nat) : Int) == ((sz / 4 : Nat) : Int)) = true := beq_self_eq_true _
          have k4 : lm.tdiv 4 = lm / 4 := Int.tdiv_eq_ediv_of_nonneg (by have := H15.out.ok.lim0; rw [hlm] at this; omega)
          have k5 : IntKind.i64.wrap (lm / 4) = lm / 4 := IntWalk.i64_in _ (by have := H15.out.ok.lim0; have := H15.out.ok.lim; rw [hlm] at *; omega)
          have k6 : (lm / 4 == lm / 4) = true := beq_self_eq_true _
          have k7 : (er == er) = true := beq_self_eq_true _
          clear hsz hlm
          have HS17 := Aside0.mk (show ∀ w' : World, w'.heap[NM]? = some (.cells #[.int .i64 ge, .int .i64 ph, .int .i64 tg, .int .i64 tx, .int .i64 rt, .int .i64 pg, .int .i64 li, .slice A' cu.length c'] 36) → w'.heap[M]? = some ((.cells #[.int .i64 d2.limit, .slice A9 n9 c9, .slice B9 m9 e9, .int .i64 d2.ops, .int .i64 d2.fuse, .bool d2.down] 47)) → w'.cell? ⟨NM, 0, none⟩ = some (.int .i64 ge) ∧ w'.cell? ⟨NM, 1, none⟩ = some (.int .i64 ph) ∧ w'.cell? ⟨NM, 2, none⟩ = some (.int .i64 tg) ∧ w'.cell? ⟨NM, 3, none⟩ = some (.int .i64 tx) ∧ w'.cell? ⟨NM, 4, none⟩ = some (.int .i64 rt) ∧ w'.cell? ⟨NM, 5, none⟩ = some (.int .i64 pg) ∧ w'.cell? ⟨NM, 6, none⟩ = some (.int .i64 li) ∧ w'.cell? ⟨NM, 7, none⟩ = some (.slice A' cu.length c') ∧ w'.cell? ⟨M, 0, none⟩ = some (.int .i64 d2.limit) ∧ w'.cell? ⟨M, 1, none⟩ = some (.slice A9 n9 c9) ∧ w'.cell? ⟨M, 2, none⟩ = some (.slice B9 m9 e9) ∧ w'.cell? ⟨M, 3, none⟩ = some (.int .i64 d2.ops) ∧ w'.cell? ⟨M, 4, none⟩ = some (.int .i64 d2.fuse) ∧ w'.cell? ⟨M, 5, none⟩ = some (.bool d2.down) from fun w' h1 h2 => by
            obtain ⟨a0, a1, a2, a3, a4, a5, a6, a7⟩ := row8_cells h1
            obtain ⟨b0, b1, b2, b3, b4, b5⟩ := row6_cells h2
            exact ⟨a0, a1, a2, a3, a4, a5, a6, a7, b0, b1, b2, b3, b4, b5⟩)
          have hbd : Below p3.heap.size p3 p3.drew := below_drew (Below.refl _ _)
          have T0 := Aside0.mk (H15.out.step hbd)
          have Q0 := Aside0.mk (R15.out.below hbd)
          obtain ⟨u0, hu0⟩ : ∃ X, p3.drew = X := ⟨_, rfl⟩
          rw [hu0] at T0 Q0
          clear hbd
          refine wp_region_M (fun j => decide (j < 36)) (fun w' => w'.cell? ⟨NM, 0, none⟩ = some (.int .i64 ge) ∧ w'.cell? ⟨NM, 1, none⟩ = some (.int .i64 ph) ∧ w'.cell? ⟨NM, 2, none⟩ = some (.int .i64 tg) ∧ w'.cell? ⟨NM, 3, none⟩ = some (.int .i64 tx) ∧ w'.cell? ⟨NM, 4, none⟩ = some (.int .i64 rt) ∧ w'.cell? ⟨NM, 5, none⟩ = some (.int .i64 pg) ∧ w'.cell? ⟨NM, 6, none⟩ = some (.int .i64 li) ∧ w'.cell? ⟨NM, 7, none⟩ = some (.slice A' cu.length c') ∧ w'.cell? ⟨M, 0, none⟩ = some (.int .i64 d2.limit) ∧ w'.cell? ⟨M, 1, none⟩ = some (.slice A9 n9 c9) ∧ w'.cell? ⟨M, 2, none⟩ = some (.slice B9 m9 e9) ∧ w'.cell? ⟨M, 3, none⟩ = some (.int .i64 d2.ops) ∧ w'.cell? ⟨M, 4, none⟩ = some (.int .i64 d2.fuse) ∧ w'.cell? ⟨M, 5, none⟩ = some (.bool d2.down)) (by kernel_rfl) ?_
          rw [hu0]
          clear hu0
          refine wpAnyM_one (i := 0) (by kernel_rfl) (by simp only [List.getElem?_toArray, List.getElem?_cons_succ, List.getElem?_cons_zero]; rfl) ?_
          go_wp2_with (go_at_call 11; with_reducible refine (alive12_any u0).mono ?_; rintro e u1 ⟨rfl, hB⟩; (have T1 := Aside0.mk (T0.out.step hB)); (have Q1 := Aside0.mk (Q0.out.below hB)); clear hB)
          refine ⟨HS17.out _ (T1.out.row (List.mem_cons_of_mem _ List.mem_cons_self)) (T1.out.row List.mem_cons_self), ?_⟩
          try simp only [Act.put, List.setIfInBounds_toArray, List.set_cons_zero, List.set_cons_succ]
          refine wpAnyM_take (i := 1) (v := ?_) (by simp only [List.getElem?_toArray, List.getElem?_cons_succ, List.getElem?_cons_zero]; rfl) (by kernel_rfl) (by kernel_rfl) (by kernel_rfl) (by kernel_rfl) (by exact fun _ _ _ h => h) (Or.inl ⟨by rfl, ?_⟩) (HS17.out _ (T1.out.row (List.mem_cons_of_mem _ List.mem_cons_self)) (T1.out.row List.mem_cons_self)) ?_
          rotate_left
          · (intro w' hSw; (try dsimp only at hSw); go_simp; try with_reducible rfl)
          try simp only [Act.put, List.setIfInBounds_toArray, List.set_cons_zero, List.set_cons_succ]
          refine wpAnyM_take (i := 2) (v := ?_) (by simp only [List.getElem?_toArray, List.getElem?_cons_succ, List.getElem?_cons_zero]; rfl) (by kernel_rfl) (by kernel_rfl) (by kernel_rfl) (by kernel_rfl) (by exact fun _ _ _ h => h) (Or.inl ⟨by rfl, ?_⟩) (HS17.out _ (T1.out.row (List.mem_cons_of_mem _ List.mem_cons_self)) (T1.out.row List.mem_cons_self)) ?_
          rotate_left
          · (intro w' hSw; (try dsimp only at hSw); go_simp; try with_reducible rfl)
          try simp only [Act.put, List.setIfInBounds_toArray, List.set_cons_zero, List.set_cons_succ]
          refine wpAnyM_take (i := 4) (v := ?_) (by simp only [List.getElem?_toArray, List.getElem?_cons_succ, List.getElem?_cons_zero]; rfl) (by kernel_rfl) (by kernel_rfl) (by kernel_rfl) (by kernel_rfl) (by exact fun _ _ _ h => h) (Or.inl ⟨by rfl, ?_⟩) (HS17.out _ (T1.out.row (List.mem_cons_of_mem _ List.mem_cons_self)) (T1.out.row List.mem_cons_self)) ?_
          rotate_left
          · (intro w' hSw; (try dsimp only at hSw); go_simp; try with_reducible rfl)
          try simp only [Act.put, List.setIfInBounds_toArray, List.set_cons_zero, List.set_cons_succ]
          refine wpAnyM_take (i := 6) (v := ?_) (by simp only [List.getElem?_toArray, List.getElem?_cons_succ, List.getElem?_cons_zero]; rfl) (by kernel_rfl) (by kernel_rfl) (by kernel_rfl) (by kernel_rfl) (by exact fun _ _ _ h => h) (Or.inl ⟨by rfl, ?_⟩) (HS17.out _ (T1.out.row (List.mem_cons_of_mem _ List.mem_cons_self)) (T1.out.row List.mem_cons_self)) ?_
          rotate_left
          · (intro w' hSw; (try dsimp only at hSw); go_simp; try with_reducible rfl)
          try simp only [Act.put, List.setIfInBounds_toArray, List.set_cons_zero, List.set_cons_succ]
          refine wpAnyM_one (i := 3) (by kernel_rfl) (by simp only [List.getElem?_toArray, List.getElem?_cons_succ, List.getElem?_cons_zero]; rfl) ?_
          go_wp2_with (go_at_call 15; refine (wof_any K kn kc hs u1 (HRC.out.below T1.out.bel) Hd.out.2.1.len).mono ?_; rintro e u2 ⟨K9, kc9, rfl, hO, hB⟩; (have T2 := Aside0.mk (T1.out.step hB)); (have Q2 := Aside0.mk (Q1.out.below hB)); (have O2 := Aside0.mk hO.rc); clear hO hB)
          refine ⟨HS17.out _ (T2.out.row (List.mem_cons_of_mem _ List.mem_cons_self)) (T2.out.row List.mem_cons_self), ?_⟩
          try simp only [Act.put, List.setIfInBounds_toArray, List.set_cons_zero, List.set_cons_succ]
          refine wpAnyM_one (i := 5) (by kernel_rfl) (by simp only [List.getElem?_toArray, List.getElem?_cons_succ, List.getElem?_cons_zero]; rfl) ?_
          go_wp2_with (go_at_call 26; refine (pright_any K9 kn kc9 hs l ⟨ge, ph, tg, tx, rt, pg, li, cu⟩ A' c' u2 O2.out Hd.out.2.1.len HHS.out.hl (Hd.out.2.2.2.1.below T2.out.bel) (by have := HFW.out.2.2.1; show pg ≤ 1000000; omega)).mono ?_; rintro e u3 ⟨rfl, hB⟩; rw [HRR.out]; (have T3 := Aside0.mk (T2.out.step hB)); (have Q3 := Aside0.mk (Q2.out.below hB)); clear hB)
          refine ⟨HS17.out _ (T3.out.row (List.mem_cons_of_mem _ List.mem_cons_self)) (T3.out.row List.mem_cons_self), ?_⟩
          try simp only [Act.put, List.setIfInBounds_toArray, List.set_cons_zero, List.set_cons_succ]
          refine wpAnyM_take (i := 7) (v := ?_) (by simp only [List.getElem?_toArray, List.getElem?_cons_succ, List.getElem?_cons_zero]; rfl) (by kernel_rfl) (by kernel_rfl) (by kernel_rfl) (by kernel_rfl) (by exact fun _ _ _ h => h) (Or.inl ⟨by rfl, ?_⟩) (HS17.out _ (T3.out.row (List.mem_cons_of_mem _ List.mem_cons_self)) (T3.out.row List.mem_cons_self)) ?_
          rotate_left
          · (intro w' hSw; (try dsimp only at hSw); go_simp; try with_reducible rfl)
          try simp only [Act.put, List.setIfInBounds_toArray, List.set_cons_zero, List.set_cons_succ]
          refine wpAnyM_take (i := 8) (v := ?_) (by simp only [List.getElem?_toArray, List.getElem?_cons_succ, List.getElem?_cons_zero]; rfl) (by kernel_rfl) (by kernel_rfl) (by kernel_rfl) (by kernel_rfl) (by exact fun _ _ _ h => h) (Or.inl ⟨by rfl, ?_⟩) (HS17.out _ (T3.out.row (List.mem_cons_of_mem _ List.mem_cons_self)) (T3.out.row List.mem_cons_self)) ?_
          rotate_left
          · (intro w' hSw; (try dsimp only at hSw); go_simp; try with_reducible rfl)
          try simp only [Act.put, List.setIfInBounds_toArray, List.set_cons_zero, List.set_cons_succ]
          refine wpAnyM_take (i := 9) (v := ?_) (by simp only [List.getElem?_toArray, List.getElem?_cons_succ, List.getElem?_cons_zero]; rfl) (by kernel_rfl) (by kernel_rfl) (by kernel_rfl) (by kernel_rfl) (by exact fun _ _ _ h => h) (Or.inl ⟨by rfl, ?_⟩) (HS17.out _ (T3.out.row (List.mem_cons_of_mem _ List.mem_cons_self)) (T3.out.row List.mem_cons_self)) ?_
          rotate_left
          · (intro w' hSw; (try dsimp only at hSw); go_simp; try with_reducible rfl)
          try simp only [Act.put, List.setIfInBounds_toArray, List.set_cons_zero, List.set_cons_succ]
          refine wpAnyM_take (i := 10) (v := ?_) (by simp only [List.getElem?_toArray, List.getElem?_cons_succ, List.getElem?_cons_zero]; rfl) (by kernel_rfl) (by kernel_rfl) (by kernel_rfl) (by kernel_rfl) (by exact fun _ _ _ h => h) (Or.inl ⟨by rfl, ?_⟩) (HS17.out _ (T3.out.row (List.mem_cons_of_mem _ List.mem_cons_self)) (T3.out.row List.mem_cons_self)) ?_
          rotate_left
          · (intro w' hSw; (try dsimp only at hSw); go_simp; try with_reducible rfl)
          try simp only [Act.put, List.setIfInBounds_toArray, List.set_cons_zero, List.set_cons_succ]
          refine wpAnyM_take (i := 11) (v := ?_) (by simp only [List.getElem?_toArray, List.getElem?_cons_succ, List.getElem?_cons_zero]; rfl) (by kernel_rfl) (by kernel_rfl) (by kernel_rfl) (by kernel_rfl) (by exact fun _ _ _ h => h) (Or.inl ⟨by rfl, ?_⟩) (HS17.out _ (T3.out.row (List.mem_cons_of_mem _ List.mem_cons_self)) (T3.out.row List.mem_cons_self)) ?_
          rotate_left
          · (intro w' hSw; (try dsimp only at hSw); go_simp; try with_reducible rfl)
          try simp only [Act.put, List.setIfInBounds_toArray, List.set_cons_zero, List.set_cons_succ]
          refine wpAnyM_take (i := 12) (v := ?_) (by simp only [List.getElem?_toArray, List.getElem?_cons_succ, List.getElem?_cons_zero]; rfl) (by kernel_rfl) (by kernel_rfl) (by kernel_rfl) (by kernel_rfl) (by exact fun _ _ _ h => h) (Or.inl ⟨by rfl, ?_⟩) (HS17.out _ (T3.out.row (List.mem_cons_of_mem _ List.mem_cons_self)) (T3.out.row List.mem_cons_self)) ?_
          rotate_left
          · (intro w' hSw; (try dsimp only at hSw); go_simp; try with_reducible rfl)
          try simp only [Act.put, List.setIfInBounds_toArray, List.set_cons_zero, List.set_cons_succ]
          refine wpAnyM_take (i := 13) (v := ?_) (by simp only [List.getElem?_toArray, List.getElem?_cons_succ, List.getElem?_cons_zero]; rfl) (by kernel_rfl) (by kernel_rfl) (by kernel_rfl) (by kernel_rfl) (by exact fun _ _ _ h => h) (Or.inl ⟨by rfl, ?_⟩) (HS17.out _ (T3.out.row (List.mem_cons_of_mem _ List.mem_cons_self)) (T3.out.row List.mem_cons_self)) ?_
          rotate_left
          · (intro w' hSw; (try dsimp only at hSw); go_simp; try with_reducible rfl)
          try simp only [Act.put, List.setIfInBounds_toArray, List.set_cons_zero, List.set_cons_succ]
          refine wpAnyM_take (i := 14) (v := ?_) (by simp only [List.getElem?_toArray, List.getElem?_cons_succ, List.getElem?_cons_zero]; rfl) (by kernel_rfl) (by kernel_rfl) (by kernel_rfl) (by kernel_rfl) (by exact fun _ _ _ h => h) (Or.inl ⟨by rfl, ?_⟩) (HS17.out _ (T3.out.row (List.mem_cons_of_mem _ List.mem_cons_self)) (T3.out.row List.mem_cons_self)) ?_
          rotate_left
          · (intro w' hSw; (try dsimp only at hSw); go_simp; try with_reducible rfl)
          try simp only [Act.put, List.setIfInBounds_toArray, List.set_cons_zero, List.set_cons_succ]
          refine wpAnyM_take (i := 15) (v := ?_) (by simp only [List.getElem?_toArray, List.getElem?_cons_succ, List.getElem?_cons_zero]; rfl) (by kernel_rfl) (by kernel_rfl) (by kernel_rfl) (by kernel_rfl) (by exact fun _ _ _ h => h) (Or.inl ⟨by rfl, ?_⟩) (HS17.out _ (T3.out.row (List.mem_cons_of_mem _ List.mem_cons_self)) (T3.out.row List.mem_cons_self)) ?_
          rotate_left
          · (intro w' hSw; (try dsimp only at hSw); go_simp; try with_reducible rfl)
          try simp only [Act.put, List.setIfInBounds_toArray, List.set_cons_zero, List.set_cons_succ]
          refine wpAnyM_take (i := 16) (v := ?_) (by simp only [List.getElem?_toArray, List.getElem?_cons_succ, List.getElem?_cons_zero]; rfl) (by kernel_rfl) (by kernel_rfl) (by kernel_rfl) (by kernel_rfl) (by exact fun _ _ _ h => h) (Or.inl ⟨by rfl, ?_⟩) (HS17.out _ (T3.out.row (List.mem_cons_of_mem _ List.mem_cons_self)) (T3.out.row List.mem_cons_self)) ?_
          rotate_left
          · (intro w' hSw; (try dsimp only at hSw); go_simp; try with_reducible rfl)
          try simp only [Act.put, List.setIfInBounds_toArray, List.set_cons_zero, List.set_cons_succ]
          have cS := stands_h T3.out A9 n9 c9 B9 m9 e9 hs9 Q3.out (by have h1 := Q3.out.bl.len; have h2 := T3.out.ok.len; have h3 := T3.out.nlim; rw [HSL.out.1] at h2 h3; have h4 := HSZ9.out; rw [HSL.out.1] at h4; omega)
          unfold rv at cS
          refine wpAnyM_one (i := 17) (by kernel_rfl) (by simp only [List.getElem?_toArray, List.getElem?_cons_succ, List.getElem?_cons_zero]; rfl) ?_
          go_wp2_with (go_at_call 27; go_loud (refine cS.mono ?_; rintro e u4 ⟨rfl, hB⟩; (have T4 := Aside0.mk (T3.out.step hB)); clear hB))
          refine ⟨HS17.out _ (T4.out.row (List.mem_cons_of_mem _ List.mem_cons_self)) (T4.out.row List.mem_cons_self), ?_⟩
          try simp only [Act.put, List.setIfInBounds_toArray, List.set_cons_zero, List.set_cons_succ]
          clear cS
          refine wpAnyM_take (i := 18) (v := ?_) (by simp only [List.getElem?_toArray, List.getElem?_cons_succ, List.getElem?_cons_zero]; rfl) (by kernel_rfl) (by kernel_rfl) (by kernel_rfl) (by kernel_rfl) (by exact fun _ _ _ h => h) (Or.inl ⟨by rfl, ?_⟩) (HS17.out _ (T4.out.row (List.mem_cons_of_mem _ List.mem_cons_self)) (T4.out.row List.mem_cons_self)) ?_
          rotate_left
          · (intro w' hSw; (try dsimp only at hSw); go_simp; try with_reducible rfl)
          try simp only [Act.put, List.setIfInBounds_toArray, List.set_cons_zero, List.set_cons_succ]
          refine wpAnyM_take (i := 19) (v := ?_) (by simp only [List.getElem?_toArray, List.getElem?_cons_succ, List.getElem?_cons_zero]; rfl) (by kernel_rfl) (by kernel_rfl) (by kernel_rfl) (by kernel_rfl) (by exact fun _ _ _ h => h) (Or.inl ⟨by rfl, ?_⟩) (HS17.out _ (T4.out.row (List.mem_cons_of_mem _ List.mem_cons_self)) (T4.out.row List.mem_cons_self)) ?_
          rotate_left
          · (intro w' hSw; (try dsimp only at hSw); go_simp; try with_reducible rfl)
          try simp only [Act.put, List.setIfInBounds_toArray, List.set_cons_zero, List.set_cons_succ]
          refine wpAnyM_take (i := 20) (v := ?_) (by simp only [List.getElem?_toArray, List.getElem?_cons_succ, List.getElem?_cons_zero]; rfl) (by kernel_rfl) (by kernel_rfl) (by kernel_rfl) (by kernel_rfl) (by exact fun _ _ _ h => h) (Or.inl ⟨by rfl, ?_⟩) (HS17.out _ (T4.out.row (List.mem_cons_of_mem _ List.mem_cons_self)) (T4.out.row List.mem_cons_self)) ?_
          rotate_left
          · (intro w' hSw; (try dsimp only at hSw); go_simp; try with_reducible rfl)
          try simp only [Act.put, List.setIfInBounds_toArray, List.set_cons_zero, List.set_cons_succ]
          refine wpAnyM_take (i := 22) (v := ?_) (by simp only [List.getElem?_toArray, List.getElem?_cons_succ, List.getElem?_cons_zero]; rfl) (by kernel_rfl) (by kernel_rfl) (by kernel_rfl) (by kernel_rfl) (by exact fun _ _ _ h => h) (Or.inl ⟨by rfl, ?_⟩) (HS17.out _ (T4.out.row (List.mem_cons_of_mem _ List.mem_cons_self)) (T4.out.row List.mem_cons_self)) ?_
          rotate_left
          · (intro w' hSw; (try dsimp only at hSw); go_simp; try with_reducible rfl)
          try simp only [Act.put, List.setIfInBounds_toArray, List.set_cons_zero, List.set_cons_succ]
          refine wpAnyM_one (i := 21) (by kernel_rfl) (by simp only [List.getElem?_toArray, List.getElem?_cons_succ, List.getElem?_cons_zero]; rfl) ?_
          go_wp2_with (go_at_call 28; refine (pages_h T4.out (List.mem_cons_of_mem _ (List.mem_cons_of_mem _ List.mem_cons_self))).mono ?_; rintro e u5 ⟨rfl, rfl⟩; rw [HSL.out.1])
          refine ⟨HS17.out _ (T4.out.row (List.mem_cons_of_mem _ List.mem_cons_self)) (T4.out.row List.mem_cons_self), ?_⟩
          try simp only [Act.put, List.setIfInBounds_toArray, List.set_cons_zero, List.set_cons_succ]
          refine wpAnyM_one (i := 23) (by kernel_rfl) (by simp only [List.getElem?_toArray, List.getElem?_cons_succ, List.getElem?_cons_zero]; rfl) ?_
          go_wp2_with (go_at_call 29; refine (size_h T4.out).mono ?_; rintro e u5 ⟨rfl, rfl⟩; rw [HSL.out.1])
          refine ⟨HS17.out _ (T4.out.row (List.mem_cons_of_mem _ List.mem_cons_self)) (T4.out.row List.mem_cons_self), ?_⟩
          try simp only [Act.put, List.setIfInBounds_toArray, List.set_cons_zero, List.set_cons_succ]
          refine wpAnyM_take (i := 24) (v := ?_) (by simp only [List.getElem?_toArray, List.getElem?_cons_succ, List.getElem?_cons_zero]; rfl) (by kernel_rfl) (by kernel_rfl) (by kernel_rfl) (by kernel_rfl) (by exact fun _ _ _ h => h) (Or.inl ⟨by rfl, ?_⟩) (HS17.out _ (T4.out.row (List.mem_cons_of_mem _ List.mem_cons_self)) (T4.out.row List.mem_cons_self)) ?_
          rotate_left
          · (intro w' hSw; (try dsimp only at hSw); go_simp; try with_reducible rfl)
          try simp only [Act.put, List.setIfInBounds_toArray, List.set_cons_zero, List.set_cons_succ]
          refine wpAnyM_take (i := 25) (v := ?_) (by simp only [List.getElem?_toArray, List.getElem?_cons_succ, List.getElem?_cons_zero]; rfl) (by kernel_rfl) (by kernel_rfl) (by kernel_rfl) (by kernel_rfl) (by exact fun _ _ _ h => h) (Or.inl ⟨by rfl, ?_⟩) (HS17.out _ (T4.out.row (List.mem_cons_of_mem _ List.mem_cons_self)) (T4.out.row List.mem_cons_self)) ?_
          rotate_left
          · (intro w' hSw; (try dsimp only at hSw); go_simp; try with_reducible rfl)
          try simp only [Act.put, List.setIfInBounds_toArray, List.set_cons_zero, List.set_cons_succ]
          refine wpAnyM_take (i := 26) (v := ?_) (by simp only [List.getElem?_toArray, List.getElem?_cons_succ, List.getElem?_cons_zero]; rfl) (by kernel_rfl) (by kernel_rfl) (by kernel_rfl) (by kernel_rfl) (by exact fun _ _ _ h => h) (Or.inl ⟨by rfl, ?_⟩) (HS17.out _ (T4.out.row (List.mem_cons_of_mem _ List.mem_cons_self)) (T4.out.row List.mem_cons_self)) ?_
          rotate_left
          · (intro w' hSw; (try dsimp only at hSw); go_simp; try with_reducible rfl)
          try simp only [Act.put, List.setIfInBounds_toArray, List.set_cons_zero, List.set_cons_succ]
          refine wpAnyM_take (i := 27) (v := ?_) (by simp only [List.getElem?_toArray, List.getElem?_cons_succ, List.getElem?_cons_zero]; rfl) (by kernel_rfl) (by kernel_rfl) (by kernel_rfl) (by kernel_rfl) (by exact fun _ _ _ h => h) (Or.inl ⟨by rfl, ?_⟩) (HS17.out _ (T4.out.row (List.mem_cons_of_mem _ List.mem_cons_self)) (T4.out.row List.mem_cons_self)) ?_
          rotate_left
          · (intro w' hSw; (try dsimp only at hSw); go_simp; try with_reducible rfl)
          try simp only [Act.put, List.setIfInBounds_toArray, List.set_cons_zero, List.set_cons_succ]
          refine wpAnyM_take (i := 28) (v := ?_) (by simp only [List.getElem?_toArray, List.getElem?_cons_succ, List.getElem?_cons_zero]; rfl) (by kernel_rfl) (by kernel_rfl) (by kernel_rfl) (by kernel_rfl) (by exact fun _ _ _ h => h) (Or.inl ⟨by rfl, ?_⟩) (HS17.out _ (T4.out.row (List.mem_cons_of_mem _ List.mem_cons_self)) (T4.out.row List.mem_cons_self)) ?_
          rotate_left
          · (intro w' hSw; (try dsimp only at hSw); go_simp; try with_reducible rfl)
          try simp only [Act.put, List.setIfInBounds_toArray, List.set_cons_zero, List.set_cons_succ]
          refine wpAnyM_take (i := 30) (v := ?_) (by simp only [List.getElem?_toArray, List.getElem?_cons_succ, List.getElem?_cons_zero]; rfl) (by kernel_rfl) (by kernel_rfl) (by kernel_rfl) (by kernel_rfl) (by exact fun _ _ _ h => h) (Or.inl ⟨by rfl, ?_⟩) (HS17.out _ (T4.out.row (List.mem_cons_of_mem _ List.mem_cons_self)) (T4.out.row List.mem_cons_self)) ?_
          rotate_left
          · (intro w' hSw; (try dsimp only at hSw); go_simp; try with_reducible rfl)
          try simp only [Act.put, List.setIfInBounds_toArray, List.set_cons_zero, List.set_cons_succ]
          refine wpAnyM_one (i := 29) (by kernel_rfl) (by simp only [List.getElem?_toArray, List.getElem?_cons_succ, List.getElem?_cons_zero]; rfl) ?_
          go_wp2_with (go_at_call 30; refine (plimit_h T4.out (List.mem_cons_of_mem _ (List.mem_cons_of_mem _ List.mem_cons_self))).mono ?_; rintro e u5 ⟨rfl, rfl⟩; rw [HSL.out.2])
          refine ⟨HS17.out _ (T4.out.row (List.mem_cons_of_mem _ List.mem_cons_self)) (T4.out.row List.mem_cons_self), ?_⟩
          try simp only [Act.put, List.setIfInBounds_toArray, List.set_cons_zero, List.set_cons_succ]
          refine wpAnyM_one (i := 31) (by kernel_rfl) (by simp only [List.getElem?_toArray, List.getElem?_cons_succ, List.getElem?_cons_zero]; rfl) ?_
          go_wp2_with (go_at_call 31; refine (limit_h T4.out).mono ?_; rintro e u5 ⟨rfl, rfl⟩; rw [HSL.out.2])
          refine ⟨HS17.out _ (T4.out.row (List.mem_cons_of_mem _ List.mem_cons_self)) (T4.out.row List.mem_cons_self), ?_⟩
          try simp only [Act.put, List.setIfInBounds_toArray, List.set_cons_zero, List.set_cons_succ]
          refine wpAnyM_take (i := 32) (v := ?_) (by simp only [List.getElem?_toArray, List.getElem?_cons_succ, List.getElem?_cons_zero]; rfl) (by kernel_rfl) (by kernel_rfl) (by kernel_rfl) (by kernel_rfl) (by exact fun _ _ _ h => h) (Or.inl ⟨by rfl, ?_⟩) (HS17.out _ (T4.out.row (List.mem_cons_of_mem _ List.mem_cons_self)) (T4.out.row List.mem_cons_self)) ?_
          rotate_left
          · (intro w' hSw; (try dsimp only at hSw); go_simp; try with_reducible rfl)
          try simp only [Act.put, List.setIfInBounds_toArray, List.set_cons_zero, List.set_cons_succ]
          refine wpAnyM_take (i := 33) (v := ?_) (by simp only [List.getElem?_toArray, List.getElem?_cons_succ, List.getElem?_cons_zero]; rfl) (by kernel_rfl) (by kernel_rfl) (by kernel_rfl) (by kernel_rfl) (by exact fun _ _ _ h => h) (Or.inl ⟨by rfl, ?_⟩) (HS17.out _ (T4.out.row (List.mem_cons_of_mem _ List.mem_cons_self)) (T4.out.row List.mem_cons_self)) ?_
          rotate_left
          · (intro w' hSw; (try dsimp only at hSw); go_simp; try with_reducible rfl)
          try simp only [Act.put, List.setIfInBounds_toArray, List.set_cons_zero, List.set_cons_succ]
          refine wpAnyM_take (i := 34) (v := ?_) (by simp only [List.getElem?_toArray, List.getElem?_cons_succ, List.getElem?_cons_zero]; rfl) (by kernel_rfl) (by kernel_rfl) (by kernel_rfl) (by kernel_rfl) (by exact fun _ _ _ h => h) (Or.inl ⟨by rfl, ?_⟩) (HS17.out _ (T4.out.row (List.mem_cons_of_mem _ List.mem_cons_self)) (T4.out.row List.mem_cons_self)) ?_
          rotate_left
          · (intro w' hSw; (try dsimp only at hSw); go_simp; try with_reducible rfl)
          try simp only [Act.put, List.setIfInBounds_toArray, List.set_cons_zero, List.set_cons_succ]
          refine wpAnyM_take (i := 35) (v := ?_) (by simp only [List.getElem?_toArray, List.getElem?_cons_succ, List.getElem?_cons_zero]; rfl) (by kernel_rfl) (by kernel_rfl) (by kernel_rfl) (by kernel_rfl) (by exact fun _ _ _ h => h) (Or.inl ⟨by rfl, ?_⟩) (HS17.out _ (T4.out.row (List.mem_cons_of_mem _ List.mem_cons_self)) (T4.out.row List.mem_cons_self)) ?_
          rotate_left
          · (intro w' hSw; (try dsimp only at hSw); go_simp; try with_reducible rfl)
          try simp only [Act.put, List.setIfInBounds_toArray, List.set_cons_zero, List.set_cons_succ]
          refine wpAnyM_done (by kernel_rfl) ?_ _
          go_wp2_with fail
          go_ret
          rw [hN'.out]
          exact ⟨rfl, by have h := below_then Hd.out.2.2.2.2.2 (by rw [← hN'.out]; exact Hd.out.2.2.2.2.2.size) T4.out.bel; exact h⟩
      | true =>
        obtain ⟨⟨er, d2⟩, hfs⟩ : ∃ x, formatS D1 l ⟨ge, ph, tg, tx, rt, pg, li, cu⟩ = x := ⟨_, rfl⟩
        have HFS := Aside0.mk hfs
        go_upto_region 12 with fail
        clear hfs y0 y1 y2 y3 y4 y5 y6 y7 y8 y9 y10
        have hbd : Below w10.heap.size w10 w10.drew := below_drew (Below.refl _ _)
        have H11 := Aside0.mk (H10.out.step hbd)
        have R11 := Aside0.mk (R10.out.below hbd)
        obtain ⟨w11, hw11⟩ : ∃ X, w10.drew = X := ⟨_, rfl⟩
        rw [hw11] at H11 R11
        clear hbd
        refine wp_region_M (fun j => decide (j < 6)) (fun w' => w'.cell? ⟨NM, 0, none⟩ = some (.int .i64 ge) ∧ w'.cell? ⟨NM, 1, none⟩ = some (.int .i64 ph) ∧ w'.cell? ⟨NM, 2, none⟩ = some (.int .i64 tg) ∧ w'.cell? ⟨NM, 3, none⟩ = some (.int .i64 tx) ∧ w'.cell? ⟨NM, 4, none⟩ = some (.int .i64 rt) ∧ w'.cell? ⟨NM, 5, none⟩ = some (.int .i64 pg) ∧ w'.cell? ⟨NM, 6, none⟩ = some (.int .i64 li) ∧ w'.cell? ⟨NM, 7, none⟩ = some (.slice A' cu.length c')) (by kernel_rfl) ?_
        rw [hw11]
        clear hw11
        refine wpAnyM_take (i := 0) (v := ?_) (by simp only [List.getElem?_toArray, List.getElem?_cons_succ, List.getElem?_cons_zero]; rfl) (by kernel_rfl) (by kernel_rfl) (by kernel_rfl) (by kernel_rfl) (by exact fun _ _ _ h => h) (Or.inl ⟨by rfl, ?_⟩) (HS8.out _ (H11.out.row List.mem_cons_self)) ?_
        rotate_left
        · (intro w' hSw; (try dsimp only at hSw); go_simp; try with_reducible rfl)
        try simp only [Act.put, List.setIfInBounds_toArray, List.set_cons_zero, List.set_cons_succ]
        refine wpAnyM_take (i := 1) (v := ?_) (by simp only [List.getElem?_toArray, List.getElem?_cons_succ, List.getElem?_cons_zero]; rfl) (by kernel_rfl) (by kernel_rfl) (by kernel_rfl) (by kernel_rfl) (by exact fun _ _ _ h => h) (Or.inl ⟨by rfl, ?_⟩) (HS8.out _ (H11.out.row List.mem_cons_self)) ?_
        rotate_left
        · (intro w' hSw; (try dsimp only at hSw); go_simp; try with_reducible rfl)
        try simp only [Act.put, List.setIfInBounds_toArray, List.set_cons_zero, List.set_cons_succ]
        refine wpAnyM_take (i := 3) (v := ?_) (by simp only [List.getElem?_toArray, List.getElem?_cons_succ, List.getElem?_cons_zero]; rfl) (by kernel_rfl) (by kernel_rfl) (by kernel_rfl) (by kernel_rfl) (by exact fun _ _ _ h => h) (Or.inl ⟨by rfl, ?_⟩) (HS8.out _ (H11.out.row List.mem_cons_self)) ?_
        rotate_left
        · (intro w' hSw; (try dsimp only at hSw); go_simp; try with_reducible rfl)
        try simp only [Act.put, List.setIfInBounds_toArray, List.set_cons_zero, List.set_cons_succ]
        refine wpAnyM_one (i := 2) (by kernel_rfl) (by simp only [List.getElem?_toArray, List.getElem?_cons_succ, List.getElem?_cons_zero]; rfl) ?_
        go_wp2_with (go_at_call 15; refine (wof_any K kn kc hs w11 (HRC.out.below H11.out.bel) Hd.out.2.1.len).mono ?_; rintro e w12 ⟨K2, kc2, rfl, hO, hB⟩; (have H12 := Aside0.mk (H11.out.step hB)); (have R12 := Aside0.mk (R11.out.below hB)); (have O12 := Aside0.mk hO.rc); clear hO hB)
        refine ⟨HS8.out _ (H12.out.row List.mem_cons_self), ?_⟩
        try simp only [Act.put, List.setIfInBounds_toArray, List.set_cons_zero, List.set_cons_succ]
        refine wpAnyM_one (i := 4) (by kernel_rfl) (by simp only [List.getElem?_toArray, List.getElem?_cons_succ, List.getElem?_cons_zero]; rfl) ?_
        go_wp2_with (go_at_call 23; refine (format_h H12.out (List.mem_cons_of_mem _ (List.mem_cons_of_mem _ List.mem_cons_self)) K2 kn kc2 hs l ⟨ge, ph, tg, tx, rt, pg, li, cu⟩ A' c' 0 0 O12.out ((HHS.out.up (fun p hp => by cases hp)).below H12.out.bel) Hd.out.2.1.len (Hd.out.2.2.2.1.below H12.out.bel) HAB.out (by have := HFW.out.2.1; omega) (by have := HKN.out; omega) (by have := HKN.out; omega) (by have := HFW.out.2.2.1; show pg ≤ 1000000; omega)).mono ?_; rintro e w13 ⟨rfl, hH⟩; rw [HFS.out] at hH; rw [HFS.out]; (have H13 := Aside0.mk (show DH wd g ((NM, .cells #[.int .i64 ge, .int .i64 ph, .int .i64 tg, .int .i64 tx, .int .i64 rt, .int .i64 pg, .int .i64 li, .slice A' cu.length c'] 36) :: (M, (.cells #[.int .i64 D1.limit, .slice A1 n1 c1, .slice none 0 0, .int .i64 D1.ops, .int .i64 D1.fuse, .bool D1.down] 47)) :: (gp, pgo g) :: RA) d2 w13 from hH)); clear hH)
        refine ⟨HS8.out _ (H13.out.row List.mem_cons_self), ?_⟩
        try simp only [Act.put, List.setIfInBounds_toArray, List.set_cons_zero, List.set_cons_succ]
        refine wpAnyM_take (i := 5) (v := ?_) (by simp only [List.getElem?_toArray, List.getElem?_cons_succ, List.getElem?_cons_zero]; rfl) (by kernel_rfl) (by kernel_rfl) (by kernel_rfl) (by kernel_rfl) (by exact fun _ _ _ h => h) (Or.inl ⟨by rfl, ?_⟩) (HS8.out _ (H13.out.row List.mem_cons_self)) ?_
        rotate_left
        · (intro w' hSw; (try dsimp only at hSw); go_simp; try with_reducible rfl)
        try simp only [Act.put, List.setIfInBounds_toArray, List.set_cons_zero, List.set_cons_succ]
        refine wpAnyM_done (by kernel_rfl) ?_ _
        have R13 := Aside0.mk (R12.out.keep (X := w13) (fun a ea h0 => by
          obtain ⟨o, ho⟩ := HRA.out h0 a ea
          exact (H13.out.row (List.mem_cons_of_mem _ (List.mem_cons_of_mem _ (List.mem_cons_of_mem _ ho)))).trans (H12.out.row (List.mem_cons_of_mem _ (List.mem_cons_of_mem _ (List.mem_cons_of_mem _ ho)))).symm))
        obtain ⟨y0, y1, y2, y3, y4, y5, y6, y7, y8, y9, y10⟩ := HYB.out _ H13.out.bel
        have HRB0 := Aside0.mk (show RB D1 0 0 by rw [← HD1.out, ← HDL.out]; exact lodD_rb xs lim fu HB.out.2.2)
        cases hR : prgB l ⟨ge, ph, tg, tx, rt, pg, li, cu⟩ with
        | false =>
          have HRR := Aside0.mk hR
          have HSZ9 := Aside0.mk (show nD D1 ≤ 65536 by have h2 := HRB0.out.lim; have h3 := HRB0.out.ok.lim; omega)
          clear hR
          obtain ⟨he, hd⟩ : 1 = er ∧ D1 = d2 := by
            have h := HFS.out
            rw [show formatS D1 l ⟨ge, ph, tg, tx, rt, pg, li, cu⟩ = (1, D1) from if_neg (fun q => by have := HRR.out; rw [q.1] at this; cases this)] at h
            injection h with h1 h2
            exact ⟨h1, h2⟩
          subst he
          subst hd
          go_upto_region 17 with (go_at_call 10; refine (rpright_any K kn kc hs l ⟨ge, ph, tg, tx, rt, pg, li, cu⟩ A' c' w13 (HRC.out.below H13.out.bel) Hd.out.2.1.len HHS.out.hl hcl).mono ?_; rintro e w14 ⟨rfl, hB⟩; rw [HRR.out]; (have H14 := Aside0.mk (H13.out.step hB)); (have R14 := Aside0.mk (R13.out.below hB)); clear y0 y1 y2 y3 y4 y5 y6 y7 y8 y9 y10; (obtain ⟨y0, y1, y2, y3, y4, y5, y6, y7, y8, y9, y10⟩ := HYB.out _ H14.out.bel); (obtain ⟨v0, v1, v2, v3, v4, v5, v6, v7⟩ := HS8.out _ (H14.out.row List.mem_cons_self)); clear hB)
          clear y0 y1 y2 y3 y4 y5 y6 y7 y8 y9 y10 v0 v1 v2 v3 v4 v5 v6 v7
          have HLM := Aside0.mk (show D1.ok (nD D1) from H14.out.ok)
          obtain ⟨sz, hsz⟩ : ∃ x, nD D1 = x := ⟨_, rfl⟩
          obtain ⟨lm, hlm⟩ : ∃ x, D1.limit = x := ⟨_, rfl⟩
          have HSL := Aside0.mk (And.intro hsz hlm)
          have k1 : ((sz : Nat) : Int).tdiv 4 = ((sz / 4 : Nat) : Int) := by rw [Int.tdiv_eq_ediv_of_nonneg (by omega)]; omega
          have k2 : IntKind.i64.wrap ((sz / 4 : Nat) : Int) = ((sz / 4 : Nat) : Int) := IntWalk.i64_in _ (by have := H14.out.nlim; rw [hsz] at this; omega)
          have k8 : IntKind.i64.wrap ((sz : Int) / 4) = (sz : Int) / 4 := IntWalk.i64_in _ (by have := H14.out.nlim; rw [hsz] at this; omega)
          have k9 : ((sz : Int) / 4 == (sz : Int) / 4) = true := beq_self_eq_true _
          have k3 : (((sz / 4 : Nat) : Int) == ((sz / 4 : Nat) : Int)) = true := beq_self_eq_true _
          have k4 : lm.tdiv 4 = lm / 4 := Int.tdiv_eq_ediv_of_nonneg (by have := H14.out.ok.lim0; rw [hlm] at this; omega)
          have k5 : IntKind.i64.wrap (lm / 4) = lm / 4 := IntWalk.i64_in _ (by have := H14.out.ok.lim0; have := H14.out.ok.lim; rw [hlm] at *; omega)
          have k6 : (lm / 4 == lm / 4) = true := beq_self_eq_true _
          have k7 : (1 == 1) = true := beq_self_eq_true _
          clear hsz hlm
          have HS17 := Aside0.mk (show ∀ w' : World, w'.heap[NM]? = some (.cells #[.int .i64 ge, .int .i64 ph, .int .i64 tg, .int .i64 tx, .int .i64 rt, .int .i64 pg, .int .i64 li, .slice A' cu.length c'] 36) → w'.heap[M]? = some ((.cells #[.int .i64 D1.limit, .slice A1 n1 c1, .slice none 0 0, .int .i64 D1.ops, .int .i64 D1.fuse, .bool D1.down] 47)) → w'.cell? ⟨NM, 0, none⟩ = some (.int .i64 ge) ∧ w'.cell? ⟨NM, 1, none⟩ = some (.int .i64 ph) ∧ w'.cell? ⟨NM, 2, none⟩ = some (.int .i64 tg) ∧ w'.cell? ⟨NM, 3, none⟩ = some (.int .i64 tx) ∧ w'.cell? ⟨NM, 4, none⟩ = some (.int .i64 rt) ∧ w'.cell? ⟨NM, 5, none⟩ = some (.int .i64 pg) ∧ w'.cell? ⟨NM, 6, none⟩ = some (.int .i64 li) ∧ w'.cell? ⟨NM, 7, none⟩ = some (.slice A' cu.length c') ∧ w'.cell? ⟨M, 0, none⟩ = some (.int .i64 D1.limit) ∧ w'.cell? ⟨M, 1, none⟩ = some (.slice A1 n1 c1) ∧ w'.cell? ⟨M, 2, none⟩ = some (.slice none 0 0) ∧ w'.cell? ⟨M, 3, none⟩ = some (.int .i64 D1.ops) ∧ w'.cell? ⟨M, 4, none⟩ = some (.int .i64 D1.fuse) ∧ w'.cell? ⟨M, 5, none⟩ = some (.bool D1.down) from fun w' h1 h2 => by
            obtain ⟨a0, a1, a2, a3, a4, a5, a6, a7⟩ := row8_cells h1
            obtain ⟨b0, b1, b2, b3, b4, b5⟩ := row6_cells h2
            exact ⟨a0, a1, a2, a3, a4, a5, a6, a7, b0, b1, b2, b3, b4, b5⟩)
          have hbd : Below w14.heap.size w14 w14.drew := below_drew (Below.refl _ _)
          have T0 := Aside0.mk (H14.out.step hbd)
          have Q0 := Aside0.mk (R14.out.below hbd)
          obtain ⟨u0, hu0⟩ : ∃ X, w14.drew = X := ⟨_, rfl⟩
          rw [hu0] at T0 Q0
          clear hbd
          refine wp_region_M (fun j => decide (j < 36)) (fun w' => w'.cell? ⟨NM, 0, none⟩ = some (.int .i64 ge) ∧ w'.cell? ⟨NM, 1, none⟩ = some (.int .i64 ph) ∧ w'.cell? ⟨NM, 2, none⟩ = some (.int .i64 tg) ∧ w'.cell? ⟨NM, 3, none⟩ = some (.int .i64 tx) ∧ w'.cell? ⟨NM, 4, none⟩ = some (.int .i64 rt) ∧ w'.cell? ⟨NM, 5, none⟩ = some (.int .i64 pg) ∧ w'.cell? ⟨NM, 6, none⟩ = some (.int .i64 li) ∧ w'.cell? ⟨NM, 7, none⟩ = some (.slice A' cu.length c') ∧ w'.cell? ⟨M, 0, none⟩ = some (.int .i64 D1.limit) ∧ w'.cell? ⟨M, 1, none⟩ = some (.slice A1 n1 c1) ∧ w'.cell? ⟨M, 2, none⟩ = some (.slice none 0 0) ∧ w'.cell? ⟨M, 3, none⟩ = some (.int .i64 D1.ops) ∧ w'.cell? ⟨M, 4, none⟩ = some (.int .i64 D1.fuse) ∧ w'.cell? ⟨M, 5, none⟩ = some (.bool D1.down)) (by kernel_rfl) ?_
          rw [hu0]
          clear hu0
          refine wpAnyM_one (i := 0) (by kernel_rfl) (by simp only [List.getElem?_toArray, List.getElem?_cons_succ, List.getElem?_cons_zero]; rfl) ?_
          go_wp2_with (go_at_call 11; with_reducible refine (alive12_any u0).mono ?_; rintro e u1 ⟨rfl, hB⟩; (have T1 := Aside0.mk (T0.out.step hB)); (have Q1 := Aside0.mk (Q0.out.below hB)); clear hB)
          refine ⟨HS17.out _ (T1.out.row List.mem_cons_self) (T1.out.row (List.mem_cons_of_mem _ List.mem_cons_self)), ?_⟩
          try simp only [Act.put, List.setIfInBounds_toArray, List.set_cons_zero, List.set_cons_succ]
          refine wpAnyM_take (i := 1) (v := ?_) (by simp only [List.getElem?_toArray, List.getElem?_cons_succ, List.getElem?_cons_zero]; rfl) (by kernel_rfl) (by kernel_rfl) (by kernel_rfl) (by kernel_rfl) (by exact fun _ _ _ h => h) (Or.inl ⟨by rfl, ?_⟩) (HS17.out _ (T1.out.row List.mem_cons_self) (T1.out.row (List.mem_cons_of_mem _ List.mem_cons_self))) ?_
          rotate_left
          · (intro w' hSw; (try dsimp only at hSw); go_simp; try with_reducible rfl)
          try simp only [Act.put, List.setIfInBounds_toArray, List.set_cons_zero, List.set_cons_succ]
          refine wpAnyM_take (i := 2) (v := ?_) (by simp only [List.getElem?_toArray, List.getElem?_cons_succ, List.getElem?_cons_zero]; rfl) (by kernel_rfl) (by kernel_rfl) (by kernel_rfl) (by kernel_rfl) (by exact fun _ _ _ h => h) (Or.inl ⟨by rfl, ?_⟩) (HS17.out _ (T1.out.row List.mem_cons_self) (T1.out.row (List.mem_cons_of_mem _ List.mem_cons_self))) ?_
          rotate_left
          · (intro w' hSw; (try dsimp only at hSw); go_simp; try with_reducible rfl)
          try simp only [Act.put, List.setIfInBounds_toArray, List.set_cons_zero, List.set_cons_succ]
          refine wpAnyM_take (i := 4) (v := ?_) (by simp only [List.getElem?_toArray, List.getElem?_cons_succ, List.getElem?_cons_zero]; rfl) (by kernel_rfl) (by kernel_rfl) (by kernel_rfl) (by kernel_rfl) (by exact fun _ _ _ h => h) (Or.inl ⟨by rfl, ?_⟩) (HS17.out _ (T1.out.row List.mem_cons_self) (T1.out.row (List.mem_cons_of_mem _ List.mem_cons_self))) ?_
          rotate_left
          · (intro w' hSw; (try dsimp only at hSw); go_simp; try with_reducible rfl)
          try simp only [Act.put, List.setIfInBounds_toArray, List.set_cons_zero, List.set_cons_succ]
          refine wpAnyM_take (i := 6) (v := ?_) (by simp only [List.getElem?_toArray, List.getElem?_cons_succ, List.getElem?_cons_zero]; rfl) (by kernel_rfl) (by kernel_rfl) (by kernel_rfl) (by kernel_rfl) (by exact fun _ _ _ h => h) (Or.inl ⟨by rfl, ?_⟩) (HS17.out _ (T1.out.row List.mem_cons_self) (T1.out.row (List.mem_cons_of_mem _ List.mem_cons_self))) ?_
          rotate_left
          · (intro w' hSw; (try dsimp only at hSw); go_simp; try with_reducible rfl)
          try simp only [Act.put, List.setIfInBounds_toArray, List.set_cons_zero, List.set_cons_succ]
          refine wpAnyM_one (i := 3) (by kernel_rfl) (by simp only [List.getElem?_toArray, List.getElem?_cons_succ, List.getElem?_cons_zero]; rfl) ?_
          go_wp2_with (go_at_call 15; refine (wof_any K kn kc hs u1 (HRC.out.below T1.out.bel) Hd.out.2.1.len).mono ?_; rintro e u2 ⟨K9, kc9, rfl, hO, hB⟩; (have T2 := Aside0.mk (T1.out.step hB)); (have Q2 := Aside0.mk (Q1.out.below hB)); (have O2 := Aside0.mk hO.rc); clear hO hB)
          refine ⟨HS17.out _ (T2.out.row List.mem_cons_self) (T2.out.row (List.mem_cons_of_mem _ List.mem_cons_self)), ?_⟩
          try simp only [Act.put, List.setIfInBounds_toArray, List.set_cons_zero, List.set_cons_succ]
          refine wpAnyM_one (i := 5) (by kernel_rfl) (by simp only [List.getElem?_toArray, List.getElem?_cons_succ, List.getElem?_cons_zero]; rfl) ?_
          go_wp2_with (go_at_call 26; refine (pright_any K9 kn kc9 hs l ⟨ge, ph, tg, tx, rt, pg, li, cu⟩ A' c' u2 O2.out Hd.out.2.1.len HHS.out.hl (Hd.out.2.2.2.1.below T2.out.bel) (by have := HFW.out.2.2.1; show pg ≤ 1000000; omega)).mono ?_; rintro e u3 ⟨rfl, hB⟩; rw [HRR.out]; (have T3 := Aside0.mk (T2.out.step hB)); (have Q3 := Aside0.mk (Q2.out.below hB)); clear hB)
          refine ⟨HS17.out _ (T3.out.row List.mem_cons_self) (T3.out.row (List.mem_cons_of_mem _ List.mem_cons_self)), ?_⟩
          try simp only [Act.put, List.setIfInBounds_toArray, List.set_cons_zero, List.set_cons_succ]
          refine wpAnyM_take (i := 7) (v := ?_) (by simp only [List.getElem?_toArray, List.getElem?_cons_succ, List.getElem?_cons_zero]; rfl) (by kernel_rfl) (by kernel_rfl) (by kernel_rfl) (by kernel_rfl) (by exact fun _ _ _ h => h) (Or.inl ⟨by rfl, ?_⟩) (HS17.out _ (T3.out.row List.mem_cons_self) (T3.out.row (List.mem_cons_of_mem _ List.mem_cons_self))) ?_
          rotate_left
          · (intro w' hSw; (try dsimp only at hSw); go_simp; try with_reducible rfl)
          try simp only [Act.put, List.setIfInBounds_toArray, List.set_cons_zero, List.set_cons_succ]
          refine wpAnyM_take (i := 8) (v := ?_) (by simp only [List.getElem?_toArray, List.getElem?_cons_succ, List.getElem?_cons_zero]; rfl) (by kernel_rfl) (by kernel_rfl) (by kernel_rfl) (by kernel_rfl) (by exact fun _ _ _ h => h) (Or.inl ⟨by rfl, ?_⟩) (HS17.out _ (T3.out.row List.mem_cons_self) (T3.out.row (List.mem_cons_of_mem _ List.mem_cons_self))) ?_
          rotate_left
          · (intro w' hSw; (try dsimp only at hSw); go_simp; try with_reducible rfl)
          try simp only [Act.put, List.setIfInBounds_toArray, List.set_cons_zero, List.set_cons_succ]
          refine wpAnyM_take (i := 9) (v := ?_) (by simp only [List.getElem?_toArray, List.getElem?_cons_succ, List.getElem?_cons_zero]; rfl) (by kernel_rfl) (by kernel_rfl) (by kernel_rfl) (by kernel_rfl) (by exact fun _ _ _ h => h) (Or.inl ⟨by rfl, ?_⟩) (HS17.out _ (T3.out.row List.mem_cons_self) (T3.out.row (List.mem_cons_of_mem _ List.mem_cons_self))) ?_
          rotate_left
          · (intro w' hSw; (try dsimp only at hSw); go_simp; try with_reducible rfl)
          try simp only [Act.put, List.setIfInBounds_toArray, List.set_cons_zero, List.set_cons_succ]
          refine wpAnyM_take (i := 10) (v := ?_) (by simp only [List.getElem?_toArray, List.getElem?_cons_succ, List.getElem?_cons_zero]; rfl) (by kernel_rfl) (by kernel_rfl) (by kernel_rfl) (by kernel_rfl) (by exact fun _ _ _ h => h) (Or.inl ⟨by rfl, ?_⟩) (HS17.out _ (T3.out.row List.mem_cons_self) (T3.out.row (List.mem_cons_of_mem _ List.mem_cons_self))) ?_
          rotate_left
          · (intro w' hSw; (try dsimp only at hSw); go_simp; try with_reducible rfl)
          try simp only [Act.put, List.setIfInBounds_toArray, List.set_cons_zero, List.set_cons_succ]
          refine wpAnyM_take (i := 11) (v := ?_) (by simp only [List.getElem?_toArray, List.getElem?_cons_succ, List.getElem?_cons_zero]; rfl) (by kernel_rfl) (by kernel_rfl) (by kernel_rfl) (by kernel_rfl) (by exact fun _ _ _ h => h) (Or.inl ⟨by rfl, ?_⟩) (HS17.out _ (T3.out.row List.mem_cons_self) (T3.out.row (List.mem_cons_of_mem _ List.mem_cons_self))) ?_
          rotate_left
          · (intro w' hSw; (try dsimp only at hSw); go_simp; try with_reducible rfl)
          try simp only [Act.put, List.setIfInBounds_toArray, List.set_cons_zero, List.set_cons_succ]
          refine wpAnyM_take (i := 12) (v := ?_) (by simp only [List.getElem?_toArray, List.getElem?_cons_succ, List.getElem?_cons_zero]; rfl) (by kernel_rfl) (by kernel_rfl) (by kernel_rfl) (by kernel_rfl) (by exact fun _ _ _ h => h) (Or.inl ⟨by rfl, ?_⟩) (HS17.out _ (T3.out.row List.mem_cons_self) (T3.out.row (List.mem_cons_of_mem _ List.mem_cons_self))) ?_
          rotate_left
          · (intro w' hSw; (try dsimp only at hSw); go_simp; try with_reducible rfl)
          try simp only [Act.put, List.setIfInBounds_toArray, List.set_cons_zero, List.set_cons_succ]
          refine wpAnyM_take (i := 13) (v := ?_) (by simp only [List.getElem?_toArray, List.getElem?_cons_succ, List.getElem?_cons_zero]; rfl) (by kernel_rfl) (by kernel_rfl) (by kernel_rfl) (by kernel_rfl) (by exact fun _ _ _ h => h) (Or.inl ⟨by rfl, ?_⟩) (HS17.out _ (T3.out.row List.mem_cons_self) (T3.out.row (List.mem_cons_of_mem _ List.mem_cons_self))) ?_
          rotate_left
          · (intro w' hSw; (try dsimp only at hSw); go_simp; try with_reducible rfl)
          try simp only [Act.put, List.setIfInBounds_toArray, List.set_cons_zero, List.set_cons_succ]
          refine wpAnyM_take (i := 14) (v := ?_) (by simp only [List.getElem?_toArray, List.getElem?_cons_succ, List.getElem?_cons_zero]; rfl) (by kernel_rfl) (by kernel_rfl) (by kernel_rfl) (by kernel_rfl) (by exact fun _ _ _ h => h) (Or.inl ⟨by rfl, ?_⟩) (HS17.out _ (T3.out.row List.mem_cons_self) (T3.out.row (List.mem_cons_of_mem _ List.mem_cons_self))) ?_
          rotate_left
          · (intro w' hSw; (try dsimp only at hSw); go_simp; try with_reducible rfl)
          try simp only [Act.put, List.setIfInBounds_toArray, List.set_cons_zero, List.set_cons_succ]
          refine wpAnyM_take (i := 15) (v := ?_) (by simp only [List.getElem?_toArray, List.getElem?_cons_succ, List.getElem?_cons_zero]; rfl) (by kernel_rfl) (by kernel_rfl) (by kernel_rfl) (by kernel_rfl) (by exact fun _ _ _ h => h) (Or.inl ⟨by rfl, ?_⟩) (HS17.out _ (T3.out.row List.mem_cons_self) (T3.out.row (List.mem_cons_of_mem _ List.mem_cons_self))) ?_
          rotate_left
          · (intro w' hSw; (try dsimp only at hSw); go_simp; try with_reducible rfl)
          try simp only [Act.put, List.setIfInBounds_toArray, List.set_cons_zero, List.set_cons_succ]
          refine wpAnyM_take (i := 16) (v := ?_) (by simp only [List.getElem?_toArray, List.getElem?_cons_succ, List.getElem?_cons_zero]; rfl) (by kernel_rfl) (by kernel_rfl) (by kernel_rfl) (by kernel_rfl) (by exact fun _ _ _ h => h) (Or.inl ⟨by rfl, ?_⟩) (HS17.out _ (T3.out.row List.mem_cons_self) (T3.out.row (List.mem_cons_of_mem _ List.mem_cons_self))) ?_
          rotate_left
          · (intro w' hSw; (try dsimp only at hSw); go_simp; try with_reducible rfl)
          try simp only [Act.put, List.setIfInBounds_toArray, List.set_cons_zero, List.set_cons_succ]
          have cS := stands_h T3.out A1 n1 c1 none 0 0 [] Q3.out (by have h1 := Q3.out.bl.len; have h2 := T3.out.ok.len; have h3 := T3.out.nlim; rw [HSL.out.1] at h2 h3; have h4 := HSZ9.out; rw [HSL.out.1] at h4; omega)
          unfold rv at cS
          refine wpAnyM_one (i := 17) (by kernel_rfl) (by simp only [List.getElem?_toArray, List.getElem?_cons_succ, List.getElem?_cons_zero]; rfl) ?_
          go_wp2_with (go_at_call 27; go_loud (refine cS.mono ?_; rintro e u4 ⟨rfl, hB⟩; (have T4 := Aside0.mk (T3.out.step hB)); clear hB))
          refine ⟨HS17.out _ (T4.out.row List.mem_cons_self) (T4.out.row (List.mem_cons_of_mem _ List.mem_cons_self)), ?_⟩
          try simp only [Act.put, List.setIfInBounds_toArray, List.set_cons_zero, List.set_cons_succ]
          clear cS
          refine wpAnyM_take (i := 18) (v := ?_) (by simp only [List.getElem?_toArray, List.getElem?_cons_succ, List.getElem?_cons_zero]; rfl) (by kernel_rfl) (by kernel_rfl) (by kernel_rfl) (by kernel_rfl) (by exact fun _ _ _ h => h) (Or.inl ⟨by rfl, ?_⟩) (HS17.out _ (T4.out.row List.mem_cons_self) (T4.out.row (List.mem_cons_of_mem _ List.mem_cons_self))) ?_
          rotate_left
          · (intro w' hSw; (try dsimp only at hSw); go_simp; try with_reducible rfl)
          try simp only [Act.put, List.setIfInBounds_toArray, List.set_cons_zero, List.set_cons_succ]
          refine wpAnyM_take (i := 19) (v := ?_) (by simp only [List.getElem?_toArray, List.getElem?_cons_succ, List.getElem?_cons_zero]; rfl) (by kernel_rfl) (by kernel_rfl) (by kernel_rfl) (by kernel_rfl) (by exact fun _ _ _ h => h) (Or.inl ⟨by rfl, ?_⟩) (HS17.out _ (T4.out.row List.mem_cons_self) (T4.out.row (List.mem_cons_of_mem _ List.mem_cons_self))) ?_
          rotate_left
          · (intro w' hSw; (try dsimp only at hSw); go_simp; try with_reducible rfl)
          try simp only [Act.put, List.setIfInBounds_toArray, List.set_cons_zero, List.set_cons_succ]
          refine wpAnyM_take (i := 20) (v := ?_) (by simp only [List.getElem?_toArray, List.getElem?_cons_succ, List.getElem?_cons_zero]; rfl) (by kernel_rfl) (by kernel_rfl) (by kernel_rfl) (by kernel_rfl) (by exact fun _ _ _ h => h) (Or.inl ⟨by rfl, ?_⟩) (HS17.out _ (T4.out.row List.mem_cons_self) (T4.out.row (List.mem_cons_of_mem _ List.mem_cons_self))) ?_
          rotate_left
          · (intro w' hSw; (try dsimp only at hSw); go_simp; try with_reducible rfl)
          try simp only [Act.put, List.setIfInBounds_toArray, List.set_cons_zero, List.set_cons_succ]
          refine wpAnyM_take (i := 22) (v := ?_) (by simp only [List.getElem?_toArray, List.getElem?_cons_succ, List.getElem?_cons_zero]; rfl) (by kernel_rfl) (by kernel_rfl) (by kernel_rfl) (by kernel_rfl) (by exact fun _ _ _ h => h) (Or.inl ⟨by rfl, ?_⟩) (HS17.out _ (T4.out.row List.mem_cons_self) (T4.out.row (List.mem_cons_of_mem _ List.mem_cons_self))) ?_
          rotate_left
          · (intro w' hSw; (try dsimp only at hSw); go_simp; try with_reducible rfl)
          try simp only [Act.put, List.setIfInBounds_toArray, List.set_cons_zero, List.set_cons_succ]
          refine wpAnyM_one (i := 21) (by kernel_rfl) (by simp only [List.getElem?_toArray, List.getElem?_cons_succ, List.getElem?_cons_zero]; rfl) ?_
          go_wp2_with (go_at_call 28; refine (pages_h T4.out (List.mem_cons_of_mem _ (List.mem_cons_of_mem _ List.mem_cons_self))).mono ?_; rintro e u5 ⟨rfl, rfl⟩; rw [HSL.out.1])
          refine ⟨HS17.out _ (T4.out.row List.mem_cons_self) (T4.out.row (List.mem_cons_of_mem _ List.mem_cons_self)), ?_⟩
          try simp only [Act.put, List.setIfInBounds_toArray, List.set_cons_zero, List.set_cons_succ]
          refine wpAnyM_one (i := 23) (by kernel_rfl) (by simp only [List.getElem?_toArray, List.getElem?_cons_succ, List.getElem?_cons_zero]; rfl) ?_
          go_wp2_with (go_at_call 29; refine (size_h T4.out).mono ?_; rintro e u5 ⟨rfl, rfl⟩; rw [HSL.out.1])
          refine ⟨HS17.out _ (T4.out.row List.mem_cons_self) (T4.out.row (List.mem_cons_of_mem _ List.mem_cons_self)), ?_⟩
          try simp only [Act.put, List.setIfInBounds_toArray, List.set_cons_zero, List.set_cons_succ]
          refine wpAnyM_take (i := 24) (v := ?_) (by simp only [List.getElem?_toArray, List.getElem?_cons_succ, List.getElem?_cons_zero]; rfl) (by kernel_rfl) (by kernel_rfl) (by kernel_rfl) (by kernel_rfl) (by exact fun _ _ _ h => h) (Or.inl ⟨by rfl, ?_⟩) (HS17.out _ (T4.out.row List.mem_cons_self) (T4.out.row (List.mem_cons_of_mem _ List.mem_cons_self))) ?_
          rotate_left
          · (intro w' hSw; (try dsimp only at hSw); go_simp; try with_reducible rfl)
          try simp only [Act.put, List.setIfInBounds_toArray, List.set_cons_zero, List.set_cons_succ]
          refine wpAnyM_take (i := 25) (v := ?_) (by simp only [List.getElem?_toArray, List.getElem?_cons_succ, List.getElem?_cons_zero]; rfl) (by kernel_rfl) (by kernel_rfl) (by kernel_rfl) (by kernel_rfl) (by exact fun _ _ _ h => h) (Or.inl ⟨by rfl, ?_⟩) (HS17.out _ (T4.out.row List.mem_cons_self) (T4.out.row (List.mem_cons_of_mem _ List.mem_cons_self))) ?_
          rotate_left
          · (intro w' hSw; (try dsimp only at hSw); go_simp; try with_reducible rfl)
          try simp only [Act.put, List.setIfInBounds_toArray, List.set_cons_zero, List.set_cons_succ]
          refine wpAnyM_take (i := 26) (v := ?_) (by simp only [List.getElem?_toArray, List.getElem?_cons_succ, List.getElem?_cons_zero]; rfl) (by kernel_rfl) (by kernel_rfl) (by kernel_rfl) (by kernel_rfl) (by exact fun _ _ _ h => h) (Or.inl ⟨by rfl, ?_⟩) (HS17.out _ (T4.out.row List.mem_cons_self) (T4.out.row (List.mem_cons_of_mem _ List.mem_cons_self))) ?_
          rotate_left
          · (intro w' hSw; (try dsimp only at hSw); go_simp; try with_reducible rfl)
          try simp only [Act.put, List.setIfInBounds_toArray, List.set_cons_zero, List.set_cons_succ]
          refine wpAnyM_take (i := 27) (v := ?_) (by simp only [List.getElem?_toArray, List.getElem?_cons_succ, List.getElem?_cons_zero]; rfl) (by kernel_rfl) (by kernel_rfl) (by kernel_rfl) (by kernel_rfl) (by exact fun _ _ _ h => h) (Or.inl ⟨by rfl, ?_⟩) (HS17.out _ (T4.out.row List.mem_cons_self) (T4.out.row (List.mem_cons_of_mem _ List.mem_cons_self))) ?_
          rotate_left
          · (intro w' hSw; (try dsimp only at hSw); go_simp; try with_reducible rfl)
          try simp only [Act.put, List.setIfInBounds_toArray, List.set_cons_zero, List.set_cons_succ]
          refine wpAnyM_take (i := 28) (v := ?_) (by simp only [List.getElem?_toArray, List.getElem?_cons_succ, List.getElem?_cons_zero]; rfl) (by kernel_rfl) (by kernel_rfl) (by kernel_rfl) (by kernel_rfl) (by exact fun _ _ _ h => h) (Or.inl ⟨by rfl, ?_⟩) (HS17.out _ (T4.out.row List.mem_cons_self) (T4.out.row (List.mem_cons_of_mem _ List.mem_cons_self))) ?_
          rotate_left
          · (intro w' hSw; (try dsimp only at hSw); go_simp; try with_reducible rfl)
          try simp only [Act.put, List.setIfInBounds_toArray, List.set_cons_zero, List.set_cons_succ]
          refine wpAnyM_take (i := 30) (v := ?_) (by simp only [List.getElem?_toArray, List.getElem?_cons_succ, List.getElem?_cons_zero]; rfl) (by kernel_rfl) (by kernel_rfl) (by kernel_rfl) (by kernel_rfl) (by exact fun _ _ _ h => h) (Or.inl ⟨by rfl, ?_⟩) (HS17.out _ (T4.out.row List.mem_cons_self) (T4.out.row (List.mem_cons_of_mem _ List.mem_cons_self))) ?_
          rotate_left
          · (intro w' hSw; (try dsimp only at hSw); go_simp; try with_reducible rfl)
          try simp only [Act.put, List.setIfInBounds_toArray, List.set_cons_zero, List.set_cons_succ]
          refine wpAnyM_one (i := 29) (by kernel_rfl) (by simp only [List.getElem?_toArray, List.getElem?_cons_succ, List.getElem?_cons_zero]; rfl) ?_
          go_wp2_with (go_at_call 30; refine (plimit_h T4.out (List.mem_cons_of_mem _ (List.mem_cons_of_mem _ List.mem_cons_self))).mono ?_; rintro e u5 ⟨rfl, rfl⟩; rw [HSL.out.2])
          refine ⟨HS17.out _ (T4.out.row List.mem_cons_self) (T4.out.row (List.mem_cons_of_mem _ List.mem_cons_self)), ?_⟩
          try simp only [Act.put, List.setIfInBounds_toArray, List.set_cons_zero, List.set_cons_succ]
          refine wpAnyM_one (i := 31) (by kernel_rfl) (by simp only [List.getElem?_toArray, List.getElem?_cons_succ, List.getElem?_cons_zero]; rfl) ?_
          go_wp2_with (go_at_call 31; refine (limit_h T4.out).mono ?_; rintro e u5 ⟨rfl, rfl⟩; rw [HSL.out.2])
          refine ⟨HS17.out _ (T4.out.row List.mem_cons_self) (T4.out.row (List.mem_cons_of_mem _ List.mem_cons_self)), ?_⟩
          try simp only [Act.put, List.setIfInBounds_toArray, List.set_cons_zero, List.set_cons_succ]
          refine wpAnyM_take (i := 32) (v := ?_) (by simp only [List.getElem?_toArray, List.getElem?_cons_succ, List.getElem?_cons_zero]; rfl) (by kernel_rfl) (by kernel_rfl) (by kernel_rfl) (by kernel_rfl) (by exact fun _ _ _ h => h) (Or.inl ⟨by rfl, ?_⟩) (HS17.out _ (T4.out.row List.mem_cons_self) (T4.out.row (List.mem_cons_of_mem _ List.mem_cons_self))) ?_
          rotate_left
          · (intro w' hSw; (try dsimp only at hSw); go_simp; try with_reducible rfl)
          try simp only [Act.put, List.setIfInBounds_toArray, List.set_cons_zero, List.set_cons_succ]
          refine wpAnyM_take (i := 33) (v := ?_) (by simp only [List.getElem?_toArray, List.getElem?_cons_succ, List.getElem?_cons_zero]; rfl) (by kernel_rfl) (by kernel_rfl) (by kernel_rfl) (by kernel_rfl) (by exact fun _ _ _ h => h) (Or.inl ⟨by rfl, ?_⟩) (HS17.out _ (T4.out.row List.mem_cons_self) (T4.out.row (List.mem_cons_of_mem _ List.mem_cons_self))) ?_
          rotate_left
          · (intro w' hSw; (try dsimp only at hSw); go_simp; try with_reducible rfl)
          try simp only [Act.put, List.setIfInBounds_toArray, List.set_cons_zero, List.set_cons_succ]
          refine wpAnyM_take (i := 34) (v := ?_) (by simp only [List.getElem?_toArray, List.getElem?_cons_succ, List.getElem?_cons_zero]; rfl) (by kernel_rfl) (by kernel_rfl) (by kernel_rfl) (by kernel_rfl) (by exact fun _ _ _ h => h) (Or.inl ⟨by rfl, ?_⟩) (HS17.out _ (T4.out.row List.mem_cons_self) (T4.out.row (List.mem_cons_of_mem _ List.mem_cons_self))) ?_
          rotate_left
          · (intro w' hSw; (try dsimp only at hSw); go_simp; try with_reducible rfl)
          try simp only [Act.put, List.setIfInBounds_toArray, List.set_cons_zero, List.set_cons_succ]
          refine wpAnyM_take (i := 35) (v := ?_) (by simp only [List.getElem?_toArray, List.getElem?_cons_succ, List.getElem?_cons_zero]; rfl) (by kernel_rfl) (by kernel_rfl) (by kernel_rfl) (by kernel_rfl) (by exact fun _ _ _ h => h) (Or.inl ⟨by rfl, ?_⟩) (HS17.out _ (T4.out.row List.mem_cons_self) (T4.out.row (List.mem_cons_of_mem _ List.mem_cons_self))) ?_
          rotate_left
          · (intro w' hSw; (try dsimp only at hSw); go_simp; try with_reducible rfl)
          try simp only [Act.put, List.setIfInBounds_toArray, List.set_cons_zero, List.set_cons_succ]
          refine wpAnyM_done (by kernel_rfl) ?_ _
          go_wp2_with fail
          go_ret
          rw [hN'.out]
          exact ⟨rfl, by have h := below_then Hd.out.2.2.2.2.2 (by rw [← hN'.out]; exact Hd.out.2.2.2.2.2.size) T4.out.bel; exact h⟩
        | true =>
          have HRR := Aside0.mk hR
          clear hR
          by_cases ht : 2 ≤ tx
          case neg =>
            have g2 : decide (2 ≤ tx) = false := decide_eq_false ht
            have HSZ9 := Aside0.mk (show nD D1 ≤ 65536 by have h2 := HRB0.out.lim; have h3 := HRB0.out.ok.lim; omega)
            obtain ⟨he, hd⟩ : 1 = er ∧ D1 = d2 := by
              have h := HFS.out
              rw [show formatS D1 l ⟨ge, ph, tg, tx, rt, pg, li, cu⟩ = (1, D1) from if_neg (fun q => q.2 (show tx < 2 by omega))] at h
              injection h with h1 h2
              exact ⟨h1, h2⟩
            subst he
            subst hd
            go_upto_region 17 with (go_at_call 10; refine (rpright_any K kn kc hs l ⟨ge, ph, tg, tx, rt, pg, li, cu⟩ A' c' w13 (HRC.out.below H13.out.bel) Hd.out.2.1.len HHS.out.hl hcl).mono ?_; rintro e w14 ⟨rfl, hB⟩; rw [HRR.out]; (have H14 := Aside0.mk (H13.out.step hB)); (have R14 := Aside0.mk (R13.out.below hB)); clear y0 y1 y2 y3 y4 y5 y6 y7 y8 y9 y10; (obtain ⟨y0, y1, y2, y3, y4, y5, y6, y7, y8, y9, y10⟩ := HYB.out _ H14.out.bel); (obtain ⟨v0, v1, v2, v3, v4, v5, v6, v7⟩ := HS8.out _ (H14.out.row List.mem_cons_self)); clear hB)
            clear y0 y1 y2 y3 y4 y5 y6 y7 y8 y9 y10 v0 v1 v2 v3 v4 v5 v6 v7
            have HLM := Aside0.mk (show D1.ok (nD D1) from H14.out.ok)
            obtain ⟨sz, hsz⟩ : ∃ x, nD D1 = x := ⟨_, rfl⟩
            obtain ⟨lm, hlm⟩ : ∃ x, D1.limit = x := ⟨_, rfl⟩
            have HSL := Aside0.mk (And.intro hsz hlm)
            have k1 : ((sz : Nat) : Int).tdiv 4 = ((sz / 4 : Nat) : Int) := by rw [Int.tdiv_eq_ediv_of_nonneg (by omega)]; omega
            have k2 : IntKind.i64.wrap ((sz / 4 : Nat) : Int) = ((sz / 4 : Nat) : Int) := IntWalk.i64_in _ (by have := H14.out.nlim; rw [hsz] at this; omega)
            have k8 : IntKind.i64.wrap ((sz : Int) / 4) = (sz : Int) / 4 := IntWalk.i64_in _ (by have := H14.out.nlim; rw [hsz] at this; omega)
            have k9 : ((sz : Int) / 4 == (sz : Int) / 4) = true := beq_self_eq_true _
            have k3 : (((sz / 4 : Nat) : Int) == ((sz / 4 : Nat) : Int)) = true := beq_self_eq_true _
            have k4 : lm.tdiv 4 = lm / 4 := Int.tdiv_eq_ediv_of_nonneg (by have := H14.out.ok.lim0; rw [hlm] at this; omega)
            have k5 : IntKind.i64.wrap (lm / 4) = lm / 4 := IntWalk.i64_in _ (by have := H14.out.ok.lim0; have := H14.out.ok.lim; rw [hlm] at *; omega)
            have k6 : (lm / 4 == lm / 4) = true := beq_self_eq_true _
            have k7 : (1 == 1) = true := beq_self_eq_true _
            clear hsz hlm
            have HS17 := Aside0.mk (show ∀ w' : World, w'.heap[NM]? = some (.cells #[.int .i64 ge, .int .i64 ph, .int .i64 tg, .int .i64 tx, .int .i64 rt, .int .i64 pg, .int .i64 li, .slice A' cu.length c'] 36) → w'.heap[M]? = some ((.cells #[.int .i64 D1.limit, .slice A1 n1 c1, .slice none 0 0, .int .i64 D1.ops, .int .i64 D1.fuse, .bool D1.down] 47)) → w'.cell? ⟨NM, 0, none⟩ = some (.int .i64 ge) ∧ w'.cell? ⟨NM, 1, none⟩ = some (.int .i64 ph) ∧ w'.cell? ⟨NM, 2, none⟩ = some (.int .i64 tg) ∧ w'.cell? ⟨NM, 3, none⟩ = some (.int .i64 tx) ∧ w'.cell? ⟨NM, 4, none⟩ = some (.int .i64 rt) ∧ w'.cell? ⟨NM, 5, none⟩ = some (.int .i64 pg) ∧ w'.cell? ⟨NM, 6, none⟩ = some (.int .i64 li) ∧ w'.cell? ⟨NM, 7, none⟩ = some (.slice A' cu.length c') ∧ w'.cell? ⟨M, 0, none⟩ = some (.int .i64 D1.limit) ∧ w'.cell? ⟨M, 1, none⟩ = some (.slice A1 n1 c1) ∧ w'.cell? ⟨M, 2, none⟩ = some (.slice none 0 0) ∧ w'.cell? ⟨M, 3, none⟩ = some (.int .i64 D1.ops) ∧ w'.cell? ⟨M, 4, none⟩ = some (.int .i64 D1.fuse) ∧ w'.cell? ⟨M, 5, none⟩ = some (.bool D1.down) from fun w' h1 h2 => by
              obtain ⟨a0, a1, a2, a3, a4, a5, a6, a7⟩ := row8_cells h1
              obtain ⟨b0, b1, b2, b3, b4, b5⟩ := row6_cells h2
              exact ⟨a0, a1, a2, a3, a4, a5, a6, a7, b0, b1, b2, b3, b4, b5⟩)
            have hbd : Below w14.heap.size w14 w14.drew := below_drew (Below.refl _ _)
            have T0 := Aside0.mk (H14.out.step hbd)
            have Q0 := Aside0.mk (R14.out.below hbd)
            obtain ⟨u0, hu0⟩ : ∃ X, w14.drew = X := ⟨_, rfl⟩
            rw [hu0] at T0 Q0
            clear hbd
            refine wp_region_M (fun j => decide (j < 36)) (fun w' => w'.cell? ⟨NM, 0, none⟩ = some (.int .i64 ge) ∧ w'.cell? ⟨NM, 1, none⟩ = some (.int .i64 ph) ∧ w'.cell? ⟨NM, 2, none⟩ = some (.int .i64 tg) ∧ w'.cell? ⟨NM, 3, none⟩ = some (.int .i64 tx) ∧ w'.cell? ⟨NM, 4, none⟩ = some (.int .i64 rt) ∧ w'.cell? ⟨NM, 5, none⟩ = some (.int .i64 pg) ∧ w'.cell? ⟨NM, 6, none⟩ = some (.int .i64 li) ∧ w'.cell? ⟨NM, 7, none⟩ = some (.slice A' cu.length c') ∧ w'.cell? ⟨M, 0, none⟩ = some (.int .i64 D1.limit) ∧ w'.cell? ⟨M, 1, none⟩ = some (.slice A1 n1 c1) ∧ w'.cell? ⟨M, 2, none⟩ = some (.slice none 0 0) ∧ w'.cell? ⟨M, 3, none⟩ = some (.int .i64 D1.ops) ∧ w'.cell? ⟨M, 4, none⟩ = some (.int .i64 D1.fuse) ∧ w'.cell? ⟨M, 5, none⟩ = some (.bool D1.down)) (by kernel_rfl) ?_
            rw [hu0]
            clear hu0
            refine wpAnyM_one (i := 0) (by kernel_rfl) (by simp only [List.getElem?_toArray, List.getElem?_cons_succ, List.getElem?_cons_zero]; rfl) ?_
            go_wp2_with (go_at_call 11; with_reducible refine (alive12_any u0).mono ?_; rintro e u1 ⟨rfl, hB⟩; (have T1 := Aside0.mk (T0.out.step hB)); (have Q1 := Aside0.mk (Q0.out.below hB)); clear hB)
            refine ⟨HS17.out _ (T1.out.row List.mem_cons_self) (T1.out.row (List.mem_cons_of_mem _ List.mem_cons_self)), ?_⟩
            try simp only [Act.put, List.setIfInBounds_toArray, List.set_cons_zero, List.set_cons_succ]
            refine wpAnyM_take (i := 1) (v := ?_) (by simp only [List.getElem?_toArray, List.getElem?_cons_succ, List.getElem?_cons_zero]; rfl) (by kernel_rfl) (by kernel_rfl) (by kernel_rfl) (by kernel_rfl) (by exact fun _ _ _ h => h) (Or.inl ⟨by rfl, ?_⟩) (HS17.out _ (T1.out.row List.mem_cons_self) (T1.out.row (List.mem_cons_of_mem _ List.mem_cons_self))) ?_
            rotate_left
            · (intro w' hSw; (try dsimp only at hSw); go_simp; try with_reducible rfl)
            try simp only [Act.put, List.setIfInBounds_toArray, List.set_cons_zero, List.set_cons_succ]
            refine wpAnyM_take (i := 2) (v := ?_) (by simp only [List.getElem?_toArray, List.getElem?_cons_succ, List.getElem?_cons_zero]; rfl) (by kernel_rfl) (by kernel_rfl) (by kernel_rfl) (by kernel_rfl) (by exact fun _ _ _ h => h) (Or.inl ⟨by rfl, ?_⟩) (HS17.out _ (T1.out.row List.mem_cons_self) (T1.out.row (List.mem_cons_of_mem _ List.mem_cons_self))) ?_
            rotate_left
            · (intro w' hSw; (try dsimp only at hSw); go_simp; try with_reducible rfl)
            try simp only [Act.put, List.setIfInBounds_toArray, List.set_cons_zero, List.set_cons_succ]
            refine wpAnyM_take (i := 4) (v := ?_) (by simp only [List.getElem?_toArray, List.getElem?_cons_succ, List.getElem?_cons_zero]; rfl) (by kernel_rfl) (by kernel_rfl) (by kernel_rfl) (by kernel_rfl) (by exact fun _ _ _ h => h) (Or.inl ⟨by rfl, ?_⟩) (HS17.out _ (T1.out.row List.mem_cons_self) (T1.out.row (List.mem_cons_of_mem _ List.mem_cons_self))) ?_
            rotate_left
            · (intro w' hSw; (try dsimp only at hSw); go_simp; try with_reducible rfl)
            try simp only [Act.put, List.setIfInBounds_toArray, List.set_cons_zero, List.set_cons_succ]
            refine wpAnyM_take (i := 6) (v := ?_) (by simp only [List.getElem?_toArray, List.getElem?_cons_succ, List.getElem?_cons_zero]; rfl) (by kernel_rfl) (by kernel_rfl) (by kernel_rfl) (by kernel_rfl) (by exact fun _ _ _ h => h) (Or.inl ⟨by rfl, ?_⟩) (HS17.out _ (T1.out.row List.mem_cons_self) (T1.out.row (List.mem_cons_of_mem _ List.mem_cons_self))) ?_
            rotate_left
            · (intro w' hSw; (try dsimp only at hSw); go_simp; try with_reducible rfl)
            try simp only [Act.put, List.setIfInBounds_toArray, List.set_cons_zero, List.set_cons_succ]
            refine wpAnyM_one (i := 3) (by kernel_rfl) (by simp only [List.getElem?_toArray, List.getElem?_cons_succ, List.getElem?_cons_zero]; rfl) ?_
            go_wp2_with (go_at_call 15; refine (wof_any K kn kc hs u1 (HRC.out.below T1.out.bel) Hd.out.2.1.len).mono ?_; rintro e u2 ⟨K9, kc9, rfl, hO, hB⟩; (have T2 := Aside0.mk (T1.out.step hB)); (have Q2 := Aside0.mk (Q1.out.below hB)); (have O2 := Aside0.mk hO.rc); clear hO hB)
            refine ⟨HS17.out _ (T2.out.row List.mem_cons_self) (T2.out.row (List.mem_cons_of_mem _ List.mem_cons_self)), ?_⟩
            try simp only [Act.put, List.setIfInBounds_toArray, List.set_cons_zero, List.set_cons_succ]
            refine wpAnyM_one (i := 5) (by kernel_rfl) (by simp only [List.getElem?_toArray, List.getElem?_cons_succ, List.getElem?_cons_zero]; rfl) ?_
            go_wp2_with (go_at_call 26; refine (pright_any K9 kn kc9 hs l ⟨ge, ph, tg, tx, rt, pg, li, cu⟩ A' c' u2 O2.out Hd.out.2.1.len HHS.out.hl (Hd.out.2.2.2.1.below T2.out.bel) (by have := HFW.out.2.2.1; show pg ≤ 1000000; omega)).mono ?_; rintro e u3 ⟨rfl, hB⟩; rw [HRR.out]; (have T3 := Aside0.mk (T2.out.step hB)); (have Q3 := Aside0.mk (Q2.out.below hB)); clear hB)
            refine ⟨HS17.out _ (T3.out.row List.mem_cons_self) (T3.out.row (List.mem_cons_of_mem _ List.mem_cons_self)), ?_⟩
            try simp only [Act.put, List.setIfInBounds_toArray, List.set_cons_zero, List.set_cons_succ]
            refine wpAnyM_take (i := 7) (v := ?_) (by simp only [List.getElem?_toArray, List.getElem?_cons_succ, List.getElem?_cons_zero]; rfl) (by kernel_rfl) (by kernel_rfl) (by kernel_rfl) (by kernel_rfl) (by exact fun _ _ _ h => h) (Or.inl ⟨by rfl, ?_⟩) (HS17.out _ (T3.out.row List.mem_cons_self) (T3.out.row (List.mem_cons_of_mem _ List.mem_cons_self))) ?_
            rotate_left
            · (intro w' hSw; (try dsimp only at hSw); go_simp; try with_reducible rfl)
            try simp only [Act.put, List.setIfInBounds_toArray, List.set_cons_zero, List.set_cons_succ]
            refine wpAnyM_take (i := 8) (v := ?_) (by simp only [List.getElem?_toArray, List.getElem?_cons_succ, List.getElem?_cons_zero]; rfl) (by kernel_rfl) (by kernel_rfl) (by kernel_rfl) (by kernel_rfl) (by exact fun _ _ _ h => h) (Or.inl ⟨by rfl, ?_⟩) (HS17.out _ (T3.out.row List.mem_cons_self) (T3.out.row (List.mem_cons_of_mem _ List.mem_cons_self))) ?_
            rotate_left
            · (intro w' hSw; (try dsimp only at hSw); go_simp; try with_reducible rfl)
            try simp only [Act.put, List.setIfInBounds_toArray, List.set_cons_zero, List.set_cons_succ]
            refine wpAnyM_take (i := 9) (v := ?_) (by simp only [List.getElem?_toArray, List.getElem?_cons_succ, List.getElem?_cons_zero]; rfl) (by kernel_rfl) (by kernel_rfl) (by kernel_rfl) (by kernel_rfl) (by exact fun _ _ _ h => h) (Or.inl ⟨by rfl, ?_⟩) (HS17.out _ (T3.out.row List.mem_cons_self) (T3.out.row (List.mem_cons_of_mem _ List.mem_cons_self))) ?_
            rotate_left
            · (intro w' hSw; (try dsimp only at hSw); go_simp; try with_reducible rfl)
            try simp only [Act.put, List.setIfInBounds_toArray, List.set_cons_zero, List.set_cons_succ]
            refine wpAnyM_take (i := 10) (v := ?_) (by simp only [List.getElem?_toArray, List.getElem?_cons_succ, List.getElem?_cons_zero]; rfl) (by kernel_rfl) (by kernel_rfl) (by kernel_rfl) (by kernel_rfl) (by exact fun _ _ _ h => h) (Or.inl ⟨by rfl, ?_⟩) (HS17.out _ (T3.out.row List.mem_cons_self) (T3.out.row (List.mem_cons_of_mem _ List.mem_cons_self))) ?_
            rotate_left
            · (intro w' hSw; (try dsimp only at hSw); go_simp; try with_reducible rfl)
            try simp only [Act.put, List.setIfInBounds_toArray, List.set_cons_zero, List.set_cons_succ]
            refine wpAnyM_take (i := 11) (v := ?_) (by simp only [List.getElem?_toArray, List.getElem?_cons_succ, List.getElem?_cons_zero]; rfl) (by kernel_rfl) (by kernel_rfl) (by kernel_rfl) (by kernel_rfl) (by exact fun _ _ _ h => h) (Or.inl ⟨by rfl, ?_⟩) (HS17.out _ (T3.out.row List.mem_cons_self) (T3.out.row (List.mem_cons_of_mem _ List.mem_cons_self))) ?_
            rotate_left
            · (intro w' hSw; (try dsimp only at hSw); go_simp; try with_reducible rfl)
            try simp only [Act.put, List.setIfInBounds_toArray, List.set_cons_zero, List.set_cons_succ]
            refine wpAnyM_take (i := 12) (v := ?_) (by simp only [List.getElem?_toArray, List.getElem?_cons_succ, List.getElem?_cons_zero]; rfl) (by kernel_rfl) (by kernel_rfl) (by kernel_rfl) (by kernel_rfl) (by exact fun _ _ _ h => h) (Or.inl ⟨by rfl, ?_⟩) (HS17.out _ (T3.out.row List.mem_cons_self) (T3.out.row (List.mem_cons_of_mem _ List.mem_cons_self))) ?_
            rotate_left
            · (intro w' hSw; (try dsimp only at hSw); go_simp; try with_reducible rfl)
            try simp only [Act.put, List.setIfInBounds_toArray, List.set_cons_zero, List.set_cons_succ]
            refine wpAnyM_take (i := 13) (v := ?_) (by simp only [List.getElem?_toArray, List.getElem?_cons_succ, List.getElem?_cons_zero]; rfl) (by kernel_rfl) (by kernel_rfl) (by kernel_rfl) (by kernel_rfl) (by exact fun _ _ _ h => h) (Or.inl ⟨by rfl, ?_⟩) (HS17.out _ (T3.out.row List.mem_cons_self) (T3.out.row (List.mem_cons_of_mem _ List.mem_cons_self))) ?_
            rotate_left
            · (intro w' hSw; (try dsimp only at hSw); go_simp; try with_reducible rfl)
            try simp only [Act.put, List.setIfInBounds_toArray, List.set_cons_zero, List.set_cons_succ]
            refine wpAnyM_take (i := 14) (v := ?_) (by simp only [List.getElem?_toArray, List.getElem?_cons_succ, List.getElem?_cons_zero]; rfl) (by kernel_rfl) (by kernel_rfl) (by kernel_rfl) (by kernel_rfl) (by exact fun _ _ _ h => h) (Or.inl ⟨by rfl, ?_⟩) (HS17.out _ (T3.out.row List.mem_cons_self) (T3.out.row (List.mem_cons_of_mem _ List.mem_cons_self))) ?_
            rotate_left
            · (intro w' hSw; (try dsimp only at hSw); go_simp; try with_reducible rfl)
            try simp only [Act.put, List.setIfInBounds_toArray, List.set_cons_zero, List.set_cons_succ]
            refine wpAnyM_take (i := 15) (v := ?_) (by simp only [List.getElem?_toArray, List.getElem?_cons_succ, List.getElem?_cons_zero]; rfl) (by kernel_rfl) (by kernel_rfl) (by kernel_rfl) (by kernel_rfl) (by exact fun _ _ _ h => h) (Or.inl ⟨by rfl, ?_⟩) (HS17.out _ (T3.out.row List.mem_cons_self) (T3.out.row (List.mem_cons_of_mem _ List.mem_cons_self))) ?_
            rotate_left
            · (intro w' hSw; (try dsimp only at hSw); go_simp; try with_reducible rfl)
            try simp only [Act.put, List.setIfInBounds_toArray, List.set_cons_zero, List.set_cons_succ]
            refine wpAnyM_take (i := 16) (v := ?_) (by simp only [List.getElem?_toArray, List.getElem?_cons_succ, List.getElem?_cons_zero]; rfl) (by kernel_rfl) (by kernel_rfl) (by kernel_rfl) (by kernel_rfl) (by exact fun _ _ _ h => h) (Or.inl ⟨by rfl, ?_⟩) (HS17.out _ (T3.out.row List.mem_cons_self) (T3.out.row (List.mem_cons_of_mem _ List.mem_cons_self))) ?_
            rotate_left
            · (intro w' hSw; (try dsimp only at hSw); go_simp; try with_reducible rfl)
            try simp only [Act.put, List.setIfInBounds_toArray, List.set_cons_zero, List.set_cons_succ]
            have cS := stands_h T3.out A1 n1 c1 none 0 0 [] Q3.out (by have h1 := Q3.out.bl.len; have h2 := T3.out.ok.len; have h3 := T3.out.nlim; rw [HSL.out.1] at h2 h3; have h4 := HSZ9.out; rw [HSL.out.1] at h4; omega)
            unfold rv at cS
            refine wpAnyM_one (i := 17) (by kernel_rfl) (by simp only [List.getElem?_toArray, List.getElem?_cons_succ, List.getElem?_cons_zero]; rfl) ?_
            go_wp2_with (go_at_call 27; go_loud (refine cS.mono ?_; rintro e u4 ⟨rfl, hB⟩; (have T4 := Aside0.mk (T3.out.step hB)); clear hB))
            refine ⟨HS17.out _ (T4.out.row List.mem_cons_self) (T4.out.row (List.mem_cons_of_mem _ List.mem_cons_self)), ?_⟩
            try simp only [Act.put, List.setIfInBounds_toArray, List.set_cons_zero, List.set_cons_succ]
            clear cS
            refine wpAnyM_take (i := 18) (v := ?_) (by simp only [List.getElem?_toArray, List.getElem?_cons_succ, List.getElem?_cons_zero]; rfl) (by kernel_rfl) (by kernel_rfl) (by kernel_rfl) (by kernel_rfl) (by exact fun _ _ _ h => h) (Or.inl ⟨by rfl, ?_⟩) (HS17.out _ (T4.out.row List.mem_cons_self) (T4.out.row (List.mem_cons_of_mem _ List.mem_cons_self))) ?_
            rotate_left
            · (intro w' hSw; (try dsimp only at hSw); go_simp; try with_reducible rfl)
            try simp only [Act.put, List.setIfInBounds_toArray, List.set_cons_zero, List.set_cons_succ]
            refine wpAnyM_take (i := 19) (v := ?_) (by simp only [List.getElem?_toArray, List.getElem?_cons_succ, List.getElem?_cons_zero]; rfl) (by kernel_rfl) (by kernel_rfl) (by kernel_rfl) (by kernel_rfl) (by exact fun _ _ _ h => h) (Or.inl ⟨by rfl, ?_⟩) (HS17.out _ (T4.out.row List.mem_cons_self) (T4.out.row (List.mem_cons_of_mem _ List.mem_cons_self))) ?_
            rotate_left
            · (intro w' hSw; (try dsimp only at hSw); go_simp; try with_reducible rfl)
            try simp only [Act.put, List.setIfInBounds_toArray, List.set_cons_zero, List.set_cons_succ]
            refine wpAnyM_take (i := 20) (v := ?_) (by simp only [List.getElem?_toArray, List.getElem?_cons_succ, List.getElem?_cons_zero]; rfl) (by kernel_rfl) (by kernel_rfl) (by kernel_rfl) (by kernel_rfl) (by exact fun _ _ _ h => h) (Or.inl ⟨by rfl, ?_⟩) (HS17.out _ (T4.out.row List.mem_cons_self) (T4.out.row (List.mem_cons_of_mem _ List.mem_cons_self))) ?_
            rotate_left
            · (intro w' hSw; (try dsimp only at hSw); go_simp; try with_reducible rfl)
            try simp only [Act.put, List.setIfInBounds_toArray, List.set_cons_zero, List.set_cons_succ]
            refine wpAnyM_take (i := 22) (v := ?_) (by simp only [List.getElem?_toArray, List.getElem?_cons_succ, List.getElem?_cons_zero]; rfl) (by kernel_rfl) (by kernel_rfl) (by kernel_rfl) (by kernel_rfl) (by exact fun _ _ _ h => h) (Or.inl ⟨by rfl, ?_⟩) (HS17.out _ (T4.out.row List.mem_cons_self) (T4.out.row (List.mem_cons_of_mem _ List.mem_cons_self))) ?_
            rotate_left
            · (intro w' hSw; (try dsimp only at hSw); go_simp; try with_reducible rfl)
            try simp only [Act.put, List.setIfInBounds_toArray, List.set_cons_zero, List.set_cons_succ]
            refine wpAnyM_one (i := 21) (by kernel_rfl) (by simp only [List.getElem?_toArray, List.getElem?_cons_succ, List.getElem?_cons_zero]; rfl) ?_
            go_wp2_with (go_at_call 28; refine (pages_h T4.out (List.mem_cons_of_mem _ (List.mem_cons_of_mem _ List.mem_cons_self))).mono ?_; rintro e u5 ⟨rfl, rfl⟩; rw [HSL.out.1])
            refine ⟨HS17.out _ (T4.out.row List.mem_cons_self) (T4.out.row (List.mem_cons_of_mem _ List.mem_cons_self)), ?_⟩
            try simp only [Act.put, List.setIfInBounds_toArray, List.set_cons_zero, List.set_cons_succ]
            refine wpAnyM_one (i := 23) (by kernel_rfl) (by simp only [List.getElem?_toArray, List.getElem?_cons_succ, List.getElem?_cons_zero]; rfl) ?_
            go_wp2_with (go_at_call 29; refine (size_h T4.out).mono ?_; rintro e u5 ⟨rfl, rfl⟩; rw [HSL.out.1])
            refine ⟨HS17.out _ (T4.out.row List.mem_cons_self) (T4.out.row (List.mem_cons_of_mem _ List.mem_cons_self)), ?_⟩
            try simp only [Act.put, List.setIfInBounds_toArray, List.set_cons_zero, List.set_cons_succ]
            refine wpAnyM_take (i := 24) (v := ?_) (by simp only [List.getElem?_toArray, List.getElem?_cons_succ, List.getElem?_cons_zero]; rfl) (by kernel_rfl) (by kernel_rfl) (by kernel_rfl) (by kernel_rfl) (by exact fun _ _ _ h => h) (Or.inl ⟨by rfl, ?_⟩) (HS17.out _ (T4.out.row List.mem_cons_self) (T4.out.row (List.mem_cons_of_mem _ List.mem_cons_self))) ?_
            rotate_left
            · (intro w' hSw; (try dsimp only at hSw); go_simp; try with_reducible rfl)
            try simp only [Act.put, List.setIfInBounds_toArray, List.set_cons_zero, List.set_cons_succ]
            refine wpAnyM_take (i := 25) (v := ?_) (by simp only [List.getElem?_toArray, List.getElem?_cons_succ, List.getElem?_cons_zero]; rfl) (by kernel_rfl) (by kernel_rfl) (by kernel_rfl) (by kernel_rfl) (by exact fun _ _ _ h => h) (Or.inl ⟨by rfl, ?_⟩) (HS17.out _ (T4.out.row List.mem_cons_self) (T4.out.row (List.mem_cons_of_mem _ List.mem_cons_self))) ?_
            rotate_left
            · (intro w' hSw; (try dsimp only at hSw); go_simp; try with_reducible rfl)
            try simp only [Act.put, List.setIfInBounds_toArray, List.set_cons_zero, List.set_cons_succ]
            refine wpAnyM_take (i := 26) (v := ?_) (by simp only [List.getElem?_toArray, List.getElem?_cons_succ, List.getElem?_cons_zero]; rfl) (by kernel_rfl) (by kernel_rfl) (by kernel_rfl) (by kernel_rfl) (by exact fun _ _ _ h => h) (Or.inl ⟨by rfl, ?_⟩) (HS17.out _ (T4.out.row List.mem_cons_self) (T4.out.row (List.mem_cons_of_mem _ List.mem_cons_self))) ?_
            rotate_left
            · (intro w' hSw; (try dsimp only at hSw); go_simp; try with_reducible rfl)
            try simp only [Act.put, List.setIfInBounds_toArray, List.set_cons_zero, List.set_cons_succ]
            refine wpAnyM_take (i := 27) (v := ?_) (by simp only [List.getElem?_toArray, List.getElem?_cons_succ, List.getElem?_cons_zero]; rfl) (by kernel_rfl) (by kernel_rfl) (by kernel_rfl) (by kernel_rfl) (by exact fun _ _ _ h => h) (Or.inl ⟨by rfl, ?_⟩) (HS17.out _ (T4.out.row List.mem_cons_self) (T4.out.row (List.mem_cons_of_mem _ List.mem_cons_self))) ?_
            rotate_left
            · (intro w' hSw; (try dsimp only at hSw); go_simp; try with_reducible rfl)
            try simp only [Act.put, List.setIfInBounds_toArray, List.set_cons_zero, List.set_cons_succ]
            refine wpAnyM_take (i := 28) (v := ?_) (by simp only [List.getElem?_toArray, List.getElem?_cons_succ, List.getElem?_cons_zero]; rfl) (by kernel_rfl) (by kernel_rfl) (by kernel_rfl) (by kernel_rfl) (by exact fun _ _ _ h => h) (Or.inl ⟨by rfl, ?_⟩) (HS17.out _ (T4.out.row List.mem_cons_self) (T4.out.row (List.mem_cons_of_mem _ List.mem_cons_self))) ?_
            rotate_left
            · (intro w' hSw; (try dsimp only at hSw); go_simp; try with_reducible rfl)
            try simp only [Act.put, List.setIfInBounds_toArray, List.set_cons_zero, List.set_cons_succ]
            refine wpAnyM_take (i := 30) (v := ?_) (by simp only [List.getElem?_toArray, List.getElem?_cons_succ, List.getElem?_cons_zero]; rfl) (by kernel_rfl) (by kernel_rfl) (by kernel_rfl) (by kernel_rfl) (by exact fun _ _ _ h => h) (Or.inl ⟨by rfl, ?_⟩) (HS17.out _ (T4.out.row List.mem_cons_self) (T4.out.row (List.mem_cons_of_mem _ List.mem_cons_self))) ?_
            rotate_left
            · (intro w' hSw; (try dsimp only at hSw); go_simp; try with_reducible rfl)
            try simp only [Act.put, List.setIfInBounds_toArray, List.set_cons_zero, List.set_cons_succ]
            refine wpAnyM_one (i := 29) (by kernel_rfl) (by simp only [List.getElem?_toArray, List.getElem?_cons_succ, List.getElem?_cons_zero]; rfl) ?_
            go_wp2_with (go_at_call 30; refine (plimit_h T4.out (List.mem_cons_of_mem _ (List.mem_cons_of_mem _ List.mem_cons_self))).mono ?_; rintro e u5 ⟨rfl, rfl⟩; rw [HSL.out.2])
            refine ⟨HS17.out _ (T4.out.row List.mem_cons_self) (T4.out.row (List.mem_cons_of_mem _ List.mem_cons_self)), ?_⟩
            try simp only [Act.put, List.setIfInBounds_toArray, List.set_cons_zero, List.set_cons_succ]
            refine wpAnyM_one (i := 31) (by kernel_rfl) (by simp only [List.getElem?_toArray, List.getElem?_cons_succ, List.getElem?_cons_zero]; rfl) ?_
            go_wp2_with (go_at_call 31; refine (limit_h T4.out).mono ?_; rintro e u5 ⟨rfl, rfl⟩; rw [HSL.out.2])
            refine ⟨HS17.out _ (T4.out.row List.mem_cons_self) (T4.out.row (List.mem_cons_of_mem _ List.mem_cons_self)), ?_⟩
            try simp only [Act.put, List.setIfInBounds_toArray, List.set_cons_zero, List.set_cons_succ]
            refine wpAnyM_take (i := 32) (v := ?_) (by simp only [List.getElem?_toArray, List.getElem?_cons_succ, List.getElem?_cons_zero]; rfl) (by kernel_rfl) (by kernel_rfl) (by kernel_rfl) (by kernel_rfl) (by exact fun _ _ _ h => h) (Or.inl ⟨by rfl, ?_⟩) (HS17.out _ (T4.out.row List.mem_cons_self) (T4.out.row (List.mem_cons_of_mem _ List.mem_cons_self))) ?_
            rotate_left
            · (intro w' hSw; (try dsimp only at hSw); go_simp; try with_reducible rfl)
            try simp only [Act.put, List.setIfInBounds_toArray, List.set_cons_zero, List.set_cons_succ]
            refine wpAnyM_take (i := 33) (v := ?_) (by simp only [List.getElem?_toArray, List.getElem?_cons_succ, List.getElem?_cons_zero]; rfl) (by kernel_rfl) (by kernel_rfl) (by kernel_rfl) (by kernel_rfl) (by exact fun _ _ _ h => h) (Or.inl ⟨by rfl, ?_⟩) (HS17.out _ (T4.out.row List.mem_cons_self) (T4.out.row (List.mem_cons_of_mem _ List.mem_cons_self))) ?_
            rotate_left
            · (intro w' hSw; (try dsimp only at hSw); go_simp; try with_reducible rfl)
            try simp only [Act.put, List.setIfInBounds_toArray, List.set_cons_zero, List.set_cons_succ]
            refine wpAnyM_take (i := 34) (v := ?_) (by simp only [List.getElem?_toArray, List.getElem?_cons_succ, List.getElem?_cons_zero]; rfl) (by kernel_rfl) (by kernel_rfl) (by kernel_rfl) (by kernel_rfl) (by exact fun _ _ _ h => h) (Or.inl ⟨by rfl, ?_⟩) (HS17.out _ (T4.out.row List.mem_cons_self) (T4.out.row (List.mem_cons_of_mem _ List.mem_cons_self))) ?_
            rotate_left
            · (intro w' hSw; (try dsimp only at hSw); go_simp; try with_reducible rfl)
            try simp only [Act.put, List.setIfInBounds_toArray, List.set_cons_zero, List.set_cons_succ]
            refine wpAnyM_take (i := 35) (v := ?_) (by simp only [List.getElem?_toArray, List.getElem?_cons_succ, List.getElem?_cons_zero]; rfl) (by kernel_rfl) (by kernel_rfl) (by kernel_rfl) (by kernel_rfl) (by exact fun _ _ _ h => h) (Or.inl ⟨by rfl, ?_⟩) (HS17.out _ (T4.out.row List.mem_cons_self) (T4.out.row (List.mem_cons_of_mem _ List.mem_cons_self))) ?_
            rotate_left
            · (intro w' hSw; (try dsimp only at hSw); go_simp; try with_reducible rfl)
            try simp only [Act.put, List.setIfInBounds_toArray, List.set_cons_zero, List.set_cons_succ]
            refine wpAnyM_done (by kernel_rfl) ?_ _
            go_wp2_with fail
            go_ret
            rw [hN'.out]
            exact ⟨rfl, by have h := below_then Hd.out.2.2.2.2.2 (by rw [← hN'.out]; exact Hd.out.2.2.2.2.2.size) T4.out.bel; exact h⟩
          case pos =>
            have g2 : decide (2 ≤ tx) = true := decide_eq_true ht
            go_upto_region 16 with (go_at_call 10; refine (rpright_any K kn kc hs l ⟨ge, ph, tg, tx, rt, pg, li, cu⟩ A' c' w13 (HRC.out.below H13.out.bel) Hd.out.2.1.len HHS.out.hl hcl).mono ?_; rintro e w14 ⟨rfl, hB⟩; rw [HRR.out]; (have H14 := Aside0.mk (H13.out.step hB)); (have R14 := Aside0.mk (R13.out.below hB)); clear y0 y1 y2 y3 y4 y5 y6 y7 y8 y9 y10; (obtain ⟨y0, y1, y2, y3, y4, y5, y6, y7, y8, y9, y10⟩ := HYB.out _ H14.out.bel); (obtain ⟨v0, v1, v2, v3, v4, v5, v6, v7⟩ := HS8.out _ (H14.out.row List.mem_cons_self)); clear hB)
            clear y0 y1 y2 y3 y4 y5 y6 y7 y8 y9 y10 v0 v1 v2 v3 v4 v5 v6 v7
            have HFE := Aside0.mk (show runS D1 (opsL l ⟨ge, ph, tg, tx, rt, pg, li, cu⟩ true) = (er, d2) from (run_ops HRR.out (fun _ => ht)).trans (by rw [if_pos rfl]; exact HFS.out))
            have HSUM := Aside0.mk (ops_sum (l := l) (m := ⟨ge, ph, tg, tx, rt, pg, li, cu⟩) (fmt := true) HRR.out (fun _ => ht))
            have HRUN := Aside0.mk (RB.run HRB0.out (opsL l ⟨ge, ph, tg, tx, rt, pg, li, cu⟩ true))
            have HWS := Aside0.mk (show ∀ X : World, Below wd.heap.size wd X → HWs X hs l from fun X hX => (HHS.out.below hX).hws (fun q hq => by have h1 := prgB_mem HRR.out q hq; have h2 := HFW.out.2.2.1; have h3 : q.1 ≤ pg := h1.2.1; omega))
            have HS16 := Aside0.mk (show ∀ w' : World, w'.heap[M]? = some ((.cells #[.int .i64 D1.limit, .slice A1 n1 c1, .slice none 0 0, .int .i64 D1.ops, .int .i64 D1.fuse, .bool D1.down] 47)) → Below wd.heap.size wd w' → w'.cell? ⟨M, 0, none⟩ = some (.int .i64 D1.limit) ∧ w'.cell? ⟨M, 1, none⟩ = some (.slice A1 n1 c1) ∧ w'.cell? ⟨M, 2, none⟩ = some (.slice none 0 0) ∧ w'.cell? ⟨M, 3, none⟩ = some (.int .i64 D1.ops) ∧ w'.cell? ⟨M, 4, none⟩ = some (.int .i64 D1.fuse) ∧ w'.cell? ⟨M, 5, none⟩ = some (.bool D1.down) ∧ w'.cell? ⟨N5, 0, none⟩ = some (.int .i64 ge) ∧ w'.cell? ⟨N5, 1, none⟩ = some (.int .i64 ph) ∧ w'.cell? ⟨N5, 2, none⟩ = some (.int .i64 tg) ∧ w'.cell? ⟨N5, 3, none⟩ = some (.int .i64 tx) ∧ w'.cell? ⟨N5, 4, none⟩ = some (.int .i64 rt) ∧ w'.cell? ⟨N5, 5, none⟩ = some (.int .i64 pg) ∧ w'.cell? ⟨N5, 6, none⟩ = some (.int .i64 li) ∧ w'.cell? ⟨N5, 7, none⟩ = some (.slice A' cu.length c') ∧ w'.cell? ⟨N5, 8, none⟩ = some (.bool true) ∧ w'.cell? ⟨N5, 9, none⟩ = some (.int .i64 lim) ∧ w'.cell? ⟨N5, 10, none⟩ = some (.int .i64 fu) from fun w' h1 h2 => by
              obtain ⟨b0, b1, b2, b3, b4, b5⟩ := row6_cells h1
              have b6 := HYB.out w' h2
              exact ⟨b0, b1, b2, b3, b4, b5, b6⟩)
            have hbd : Below w14.heap.size w14 w14.drew := below_drew (Below.refl _ _)
            have T0 := Aside0.mk (H14.out.step hbd)
            have Q0 := Aside0.mk (R14.out.below hbd)
            obtain ⟨p0, hp0⟩ : ∃ X, w14.drew = X := ⟨_, rfl⟩
            rw [hp0] at T0 Q0
            clear hbd
            refine wp_region_M (fun j => decide (j < 9)) (fun w' => w'.cell? ⟨M, 0, none⟩ = some (.int .i64 D1.limit) ∧ w'.cell? ⟨M, 1, none⟩ = some (.slice A1 n1 c1) ∧ w'.cell? ⟨M, 2, none⟩ = some (.slice none 0 0) ∧ w'.cell? ⟨M, 3, none⟩ = some (.int .i64 D1.ops) ∧ w'.cell? ⟨M, 4, none⟩ = some (.int .i64 D1.fuse) ∧ w'.cell? ⟨M, 5, none⟩ = some (.bool D1.down) ∧ w'.cell? ⟨N5, 0, none⟩ = some (.int .i64 ge) ∧ w'.cell? ⟨N5, 1, none⟩ = some (.int .i64 ph) ∧ w'.cell? ⟨N5, 2, none⟩ = some (.int .i64 tg) ∧ w'.cell? ⟨N5, 3, none⟩ = some (.int .i64 tx) ∧ w'.cell? ⟨N5, 4, none⟩ = some (.int .i64 rt) ∧ w'.cell? ⟨N5, 5, none⟩ = some (.int .i64 pg) ∧ w'.cell? ⟨N5, 6, none⟩ = some (.int .i64 li) ∧ w'.cell? ⟨N5, 7, none⟩ = some (.slice A' cu.length c') ∧ w'.cell? ⟨N5, 8, none⟩ = some (.bool true) ∧ w'.cell? ⟨N5, 9, none⟩ = some (.int .i64 lim) ∧ w'.cell? ⟨N5, 10, none⟩ = some (.int .i64 fu)) (by kernel_rfl) ?_
            rw [hp0]
            clear hp0
            refine wpAnyM_take (i := 0) (v := ?_) (by simp only [List.getElem?_toArray, List.getElem?_cons_succ, List.getElem?_cons_zero]; rfl) (by kernel_rfl) (by kernel_rfl) (by kernel_rfl) (by kernel_rfl) (by exact fun _ _ _ h => h) (Or.inl ⟨by rfl, ?_⟩) (HS16.out _ (T0.out.row (List.mem_cons_of_mem _ List.mem_cons_self)) T0.out.bel) ?_
            rotate_left
            · (intro w' hSw; (try dsimp only at hSw); go_simp; try with_reducible rfl)
            try simp only [Act.put, List.setIfInBounds_toArray, List.set_cons_zero, List.set_cons_succ]
            refine wpAnyM_take (i := 1) (v := ?_) (by simp only [List.getElem?_toArray, List.getElem?_cons_succ, List.getElem?_cons_zero]; rfl) (by kernel_rfl) (by kernel_rfl) (by kernel_rfl) (by kernel_rfl) (by exact fun _ _ _ h => h) (Or.inl ⟨by rfl, ?_⟩) (HS16.out _ (T0.out.row (List.mem_cons_of_mem _ List.mem_cons_self)) T0.out.bel) ?_
            rotate_left
            · (intro w' hSw; (try dsimp only at hSw); go_simp; try with_reducible rfl)
            try simp only [Act.put, List.setIfInBounds_toArray, List.set_cons_zero, List.set_cons_succ]
            refine wpAnyM_take (i := 2) (v := ?_) (by simp only [List.getElem?_toArray, List.getElem?_cons_succ, List.getElem?_cons_zero]; rfl) (by kernel_rfl) (by kernel_rfl) (by kernel_rfl) (by kernel_rfl) (by exact fun _ _ _ h => h) (Or.inl ⟨by rfl, ?_⟩) (HS16.out _ (T0.out.row (List.mem_cons_of_mem _ List.mem_cons_self)) T0.out.bel) ?_
            rotate_left
            · (intro w' hSw; (try dsimp only at hSw); go_simp; try with_reducible rfl)
            try simp only [Act.put, List.setIfInBounds_toArray, List.set_cons_zero, List.set_cons_succ]
            refine wpAnyM_take (i := 3) (v := ?_) (by simp only [List.getElem?_toArray, List.getElem?_cons_succ, List.getElem?_cons_zero]; rfl) (by kernel_rfl) (by kernel_rfl) (by kernel_rfl) (by kernel_rfl) (by exact fun _ _ _ h => h) (Or.inl ⟨by rfl, ?_⟩) (HS16.out _ (T0.out.row (List.mem_cons_of_mem _ List.mem_cons_self)) T0.out.bel) ?_
            rotate_left
            · (intro w' hSw; (try dsimp only at hSw); go_simp; try with_reducible rfl)
            try simp only [Act.put, List.setIfInBounds_toArray, List.set_cons_zero, List.set_cons_succ]
            refine wpAnyM_take (i := 4) (v := ?_) (by simp only [List.getElem?_toArray, List.getElem?_cons_succ, List.getElem?_cons_zero]; rfl) (by kernel_rfl) (by kernel_rfl) (by kernel_rfl) (by kernel_rfl) (by exact fun _ _ _ h => h) (Or.inl ⟨by rfl, ?_⟩) (HS16.out _ (T0.out.row (List.mem_cons_of_mem _ List.mem_cons_self)) T0.out.bel) ?_
            rotate_left
            · (intro w' hSw; (try dsimp only at hSw); go_simp; try with_reducible rfl)
            try simp only [Act.put, List.setIfInBounds_toArray, List.set_cons_zero, List.set_cons_succ]
            refine wpAnyM_take (i := 5) (v := ?_) (by simp only [List.getElem?_toArray, List.getElem?_cons_succ, List.getElem?_cons_zero]; rfl) (by kernel_rfl) (by kernel_rfl) (by kernel_rfl) (by kernel_rfl) (by exact fun _ _ _ h => h) (Or.inl ⟨by rfl, ?_⟩) (HS16.out _ (T0.out.row (List.mem_cons_of_mem _ List.mem_cons_self)) T0.out.bel) ?_
            rotate_left
            · (intro w' hSw; (try dsimp only at hSw); go_simp; try with_reducible rfl)
            try simp only [Act.put, List.setIfInBounds_toArray, List.set_cons_zero, List.set_cons_succ]
            refine wpAnyM_one (i := 6) (by kernel_rfl) (by simp only [List.getElem?_toArray, List.getElem?_cons_succ, List.getElem?_cons_zero]; rfl) ?_
            go_wp2_with (go_at_call 25; refine (rops_format K kn kc hs l ⟨ge, ph, tg, tx, rt, pg, li, cu⟩ A' c' p0 (HRC.out.below T0.out.bel) Hd.out.2.1.len (HWS.out _ T0.out.bel) (Hd.out.2.2.2.1.below T0.out.bel) (right_of HRR.out) ht (by have := HKN.out; omega)).mono ?_; rintro e p1 ⟨O9, on, oc, qs, rfl, hO, hQ, hq, hB⟩; (have T1 := Aside0.mk (T0.out.step hB)); (have Q1 := Aside0.mk (Q0.out.below hB)); (have O1 := Aside0.mk (And.intro hO (And.intro hQ hq))); clear hB hO hQ hq)
            refine ⟨HS16.out _ (T1.out.row (List.mem_cons_of_mem _ List.mem_cons_self)) T1.out.bel, ?_⟩
            try simp only [Act.put, List.setIfInBounds_toArray, List.set_cons_zero, List.set_cons_succ]
            have cR := rrun_any A1 n1 c1 none 0 0 [] D1 p1 O9 on oc qs (opsL l ⟨ge, ph, tg, tx, rt, pg, li, cu⟩ true) 0 0 Q1.out HRB0.out O1.out.1 O1.out.2.1 O1.out.2.2 (by rw [HSUM.out.1]; have := HFW.out.2.1; omega) (by have h1 := O1.out.2.1.len; have h2 := O1.out.2.2; have h3 := HSUM.out.2; have h4 := HFW.out.1; omega)
            rw [HFE.out] at cR
            unfold rv at cR
            refine wpAnyM_one (i := 7) (by kernel_rfl) (by simp only [List.getElem?_toArray, List.getElem?_cons_succ, List.getElem?_cons_zero]; rfl) ?_
            go_wp2_with (go_at_call 24; refine cR.mono ?_; rintro e p2 ⟨A9, n9, c9, B9, m9, e9, hs9, rfl, hR, hB⟩; unfold rv; (have T2 := Aside0.mk (T1.out.step hB)); (have Q2 := Aside0.mk hR); clear hB hR)
            refine ⟨HS16.out _ (T2.out.row (List.mem_cons_of_mem _ List.mem_cons_self)) T2.out.bel, ?_⟩
            try simp only [Act.put, List.setIfInBounds_toArray, List.set_cons_zero, List.set_cons_succ]
            clear cR
            refine wpAnyM_take (i := 8) (v := ?_) (by simp only [List.getElem?_toArray, List.getElem?_cons_succ, List.getElem?_cons_zero]; rfl) (by kernel_rfl) (by kernel_rfl) (by kernel_rfl) (by kernel_rfl) (by exact fun _ _ _ h => h) (Or.inl ⟨by rfl, ?_⟩) (HS16.out _ (T2.out.row (List.mem_cons_of_mem _ List.mem_cons_self)) T2.out.bel) ?_
            rotate_left
            · (intro w' hSw; (try dsimp only at hSw); go_simp; try with_reducible rfl)
            try simp only [Act.put, List.setIfInBounds_toArray, List.set_cons_zero, List.set_cons_succ]
            refine wpAnyM_take0 (i := 9) (v := ?_) (by simp only [List.getElem?_toArray, List.getElem?_cons_succ, List.getElem?_cons_zero]; rfl) (by kernel_rfl) (by kernel_rfl) (by kernel_rfl) (by rfl) (by exact fun _ _ _ h => h) (Or.inl ⟨by rfl, ?_⟩) ?_
            rotate_left
            · (intro w' _; go_simp; try with_reducible rfl)
            try simp only [Act.put, List.setIfInBounds_toArray, List.set_cons_zero, List.set_cons_succ]
            refine wpAnyM_take0 (i := 10) (v := ?_) (by simp only [List.getElem?_toArray, List.getElem?_cons_succ, List.getElem?_cons_zero]; rfl) (by kernel_rfl) (by kernel_rfl) (by kernel_rfl) (by rfl) (by exact fun _ _ _ h => h) (Or.inl ⟨by rfl, ?_⟩) ?_
            rotate_left
            · (intro w' _; go_simp; try with_reducible rfl)
            try simp only [Act.put, List.setIfInBounds_toArray, List.set_cons_zero, List.set_cons_succ]
            have hr := T2.out.row (List.mem_cons_of_mem _ List.mem_cons_self)
            obtain ⟨z0, z1, z2, z3, z4, z5⟩ := row6_cells hr
            have yM := fun j => Go.Joins.unfrozen_of_block hr j
            refine wpAnyM_one (i := 11) (by kernel_rfl) (by simp only [List.getElem?_toArray, List.getElem?_cons_succ, List.getElem?_cons_zero]; rfl) ?_
            go_wp2_with fail
            have ho := only_set6 (W := p2) (g := M) (.int .i64 d2.limit) (.slice A9 n9 c9) (.slice B9 m9 e9) (.int .i64 d2.ops) (.int .i64 d2.fuse) (.bool d2.down)
            have HRD := Aside0.mk (show RB d2 (0 + ((opsL l ⟨ge, ph, tg, tx, rt, pg, li, cu⟩ true).map fun q => q.2.2.length).sum) (0 + (opsL l ⟨ge, ph, tg, tx, rt, pg, li, cu⟩ true).length) ∧ d2.limit = D1.limit by have h := HRUN.out; rw [HFE.out] at h; exact h)
            have h15 := (T2.out.drop (R1 := (M, (.cells #[.int .i64 D1.limit, .slice A1 n1 c1, .slice none 0 0, .int .i64 D1.ops, .int .i64 D1.fuse, .bool D1.down] 47)) :: (NM, .cells #[.int .i64 ge, .int .i64 ph, .int .i64 tg, .int .i64 tx, .int .i64 rt, .int .i64 pg, .int .i64 li, .slice A' cu.length c'] 36) :: (gp, pgo g) :: RA) (fun p hp => by
              rcases List.mem_cons.1 hp with rfl | hp
              · exact List.mem_cons_of_mem _ List.mem_cons_self
              · rcases List.mem_cons.1 hp with rfl | hp
                · exact List.mem_cons_self
                · exact List.mem_cons_of_mem _ (List.mem_cons_of_mem _ hp))).turn ho HLS.out.lo (fun p hp => by
              rcases List.mem_cons.1 hp with rfl | hp
              · have := HNM.out (M, (.cells #[.int .i64 D1.limit, .slice A1 n1 c1, .slice none 0 0, .int .i64 D1.ops, .int .i64 D1.fuse, .bool D1.down] 47)) List.mem_cons_self
                show NM ≠ M
                exact Nat.ne_of_gt this
              · rcases List.mem_cons.1 hp with rfl | hp
                · have := HGP.out (M, (.cells #[.int .i64 D.limit, .slice A1 n1 c1, .slice none 0 0, .int .i64 D.ops, .int .i64 D.fuse, .bool D.down] 47)) List.mem_cons_self
                  show gp ≠ M
                  exact Nat.ne_of_gt this
                · exact HNE.out p hp) (row6_set (.int .i64 d2.limit) (.slice A9 n9 c9) (.slice B9 m9 e9) (.int .i64 d2.ops) (.int .i64 d2.fuse) (.bool d2.down) hr)
            have r15 := RM.stay6 hr Q2.out ho (fun q hq hL => by
              have h1 := (HRD.out.1.ok.each q hq).2
              have h2 := HRD.out.1.lim
              have h3 := HRD.out.2
              omega)
            obtain ⟨p3, hp3⟩ : ∃ X, ((((((p2.setCell ⟨M, 0, none⟩ (.int .i64 d2.limit)).setCell ⟨M, 1, none⟩ (.slice A9 n9 c9)).setCell ⟨M, 2, none⟩ (.slice B9 m9 e9)).setCell ⟨M, 3, none⟩ (.int .i64 d2.ops)).setCell ⟨M, 4, none⟩ (.int .i64 d2.fuse)).setCell ⟨M, 5, none⟩ (.bool d2.down)) = X := ⟨_, rfl⟩
            rw [hp3] at h15 r15 ⊢
            have H15 := Aside0.mk h15
            have R15 := Aside0.mk r15
            clear hr ho h15 r15 hp3 z0 z1 z2 z3 z4 z5 yM
            try simp only [Act.put, List.setIfInBounds_toArray, List.set_cons_zero, List.set_cons_succ]
            refine wpAnyM_take0 (i := 12) (v := ?_) (by simp only [List.getElem?_toArray, List.getElem?_cons_succ, List.getElem?_cons_zero]; rfl) (by kernel_rfl) (by kernel_rfl) (by kernel_rfl) (by rfl) (by exact fun _ _ _ h => h) (Or.inl ⟨by rfl, ?_⟩) ?_
            rotate_left
            · (intro w' _; go_simp; try with_reducible rfl)
            try simp only [Act.put, List.setIfInBounds_toArray, List.set_cons_zero, List.set_cons_succ]
            refine wpAnyM_done (by kernel_rfl) ?_ _
            go_upto_region 17 with fail
            have HSZ9 := Aside0.mk (show nD d2 ≤ 65536 by have h2 := HRD.out.1.lim; have h3 := HRD.out.1.ok.lim; omega)
            obtain ⟨sz, hsz⟩ : ∃ x, nD d2 = x := ⟨_, rfl⟩
            obtain ⟨lm, hlm⟩ : ∃ x, d2.limit = x := ⟨_, rfl⟩
            have HSL := Aside0.mk (And.intro hsz hlm)
            have k1 : ((sz : Nat) : Int).tdiv 4 = ((sz / 4 : Nat) : Int) := by rw [Int.tdiv_eq_ediv_of_nonneg (by omega)]; omega
            have k2 : IntKind.i64.wrap ((sz / 4 : Nat) : Int) = ((sz / 4 : Nat) : Int) := IntWalk.i64_in _ (by have := H15.out.nlim; rw [hsz] at this; omega)
            have k8 : IntKind.i64.wrap ((sz : Int) / 4) = (sz : Int) / 4 := IntWalk.i64_in _ (by have := H15.out.nlim; rw [hsz] at this; omega)
            have k9 : ((sz : Int) / 4 == (sz : Int) / 4) = true := beq_self_eq_true _
            have k3 : (((sz / 4 : Nat) : Int) == ((sz / 4 : Nat) : Int)) = true := beq_self_eq_true _
            have k4 : lm.tdiv 4 = lm / 4 := Int.tdiv_eq_ediv_of_nonneg (by have := H15.out.ok.lim0; rw [hlm] at this; omega)
            have k5 : IntKind.i64.wrap (lm / 4) = lm / 4 := IntWalk.i64_in _ (by have := H15.out.ok.lim0; have := H15.out.ok.lim; rw [hlm] at *; omega)
            have k6 : (lm / 4 == lm / 4) = true := beq_self_eq_true _
            have k7 : (er == er) = true := beq_self_eq_true _
            clear hsz hlm
            have HS17 := Aside0.mk (show ∀ w' : World, w'.heap[NM]? = some (.cells #[.int .i64 ge, .int .i64 ph, .int .i64 tg, .int .i64 tx, .int .i64 rt, .int .i64 pg, .int .i64 li, .slice A' cu.length c'] 36) → w'.heap[M]? = some ((.cells #[.int .i64 d2.limit, .slice A9 n9 c9, .slice B9 m9 e9, .int .i64 d2.ops, .int .i64 d2.fuse, .bool d2.down] 47)) → w'.cell? ⟨NM, 0, none⟩ = some (.int .i64 ge) ∧ w'.cell? ⟨NM, 1, none⟩ = some (.int .i64 ph) ∧ w'.cell? ⟨NM, 2, none⟩ = some (.int .i64 tg) ∧ w'.cell? ⟨NM, 3, none⟩ = some (.int .i64 tx) ∧ w'.cell? ⟨NM, 4, none⟩ = some (.int .i64 rt) ∧ w'.cell? ⟨NM, 5, none⟩ = some (.int .i64 pg) ∧ w'.cell? ⟨NM, 6, none⟩ = some (.int .i64 li) ∧ w'.cell? ⟨NM, 7, none⟩ = some (.slice A' cu.length c') ∧ w'.cell? ⟨M, 0, none⟩ = some (.int .i64 d2.limit) ∧ w'.cell? ⟨M, 1, none⟩ = some (.slice A9 n9 c9) ∧ w'.cell? ⟨M, 2, none⟩ = some (.slice B9 m9 e9) ∧ w'.cell? ⟨M, 3, none⟩ = some (.int .i64 d2.ops) ∧ w'.cell? ⟨M, 4, none⟩ = some (.int .i64 d2.fuse) ∧ w'.cell? ⟨M, 5, none⟩ = some (.bool d2.down) from fun w' h1 h2 => by
              obtain ⟨a0, a1, a2, a3, a4, a5, a6, a7⟩ := row8_cells h1
              obtain ⟨b0, b1, b2, b3, b4, b5⟩ := row6_cells h2
              exact ⟨a0, a1, a2, a3, a4, a5, a6, a7, b0, b1, b2, b3, b4, b5⟩)
            have hbd : Below p3.heap.size p3 p3.drew := below_drew (Below.refl _ _)
            have T0 := Aside0.mk (H15.out.step hbd)
            have Q0 := Aside0.mk (R15.out.below hbd)
            obtain ⟨u0, hu0⟩ : ∃ X, p3.drew = X := ⟨_, rfl⟩
            rw [hu0] at T0 Q0
            clear hbd
            refine wp_region_M (fun j => decide (j < 36)) (fun w' => w'.cell? ⟨NM, 0, none⟩ = some (.int .i64 ge) ∧ w'.cell? ⟨NM, 1, none⟩ = some (.int .i64 ph) ∧ w'.cell? ⟨NM, 2, none⟩ = some (.int .i64 tg) ∧ w'.cell? ⟨NM, 3, none⟩ = some (.int .i64 tx) ∧ w'.cell? ⟨NM, 4, none⟩ = some (.int .i64 rt) ∧ w'.cell? ⟨NM, 5, none⟩ = some (.int .i64 pg) ∧ w'.cell? ⟨NM, 6, none⟩ = some (.int .i64 li) ∧ w'.cell? ⟨NM, 7, none⟩ = some (.slice A' cu.length c') ∧ w'.cell? ⟨M, 0, none⟩ = some (.int .i64 d2.limit) ∧ w'.cell? ⟨M, 1, none⟩ = some (.slice A9 n9 c9) ∧ w'.cell? ⟨M, 2, none⟩ = some (.slice B9 m9 e9) ∧ w'.cell? ⟨M, 3, none⟩ = some (.int .i64 d2.ops) ∧ w'.cell? ⟨M, 4, none⟩ = some (.int .i64 d2.fuse) ∧ w'.cell? ⟨M, 5, none⟩ = some (.bool d2.down)) (by kernel_rfl) ?_
            rw [hu0]
            clear hu0
            refine wpAnyM_one (i := 0) (by kernel_rfl) (by simp only [List.getElem?_toArray, List.getElem?_cons_succ, List.getElem?_cons_zero]; rfl) ?_
            go_wp2_with (go_at_call 11; with_reducible refine (alive12_any u0).mono ?_; rintro e u1 ⟨rfl, hB⟩; (have T1 := Aside0.mk (T0.out.step hB)); (have Q1 := Aside0.mk (Q0.out.below hB)); clear hB)
            refine ⟨HS17.out _ (T1.out.row (List.mem_cons_of_mem _ List.mem_cons_self)) (T1.out.row List.mem_cons_self), ?_⟩
            try simp only [Act.put, List.setIfInBounds_toArray, List.set_cons_zero, List.set_cons_succ]
            refine wpAnyM_take (i := 1) (v := ?_) (by simp only [List.getElem?_toArray, List.getElem?_cons_succ, List.getElem?_cons_zero]; rfl) (by kernel_rfl) (by kernel_rfl) (by kernel_rfl) (by kernel_rfl) (by exact fun _ _ _ h => h) (Or.inl ⟨by rfl, ?_⟩) (HS17.out _ (T1.out.row (List.mem_cons_of_mem _ List.mem_cons_self)) (T1.out.row List.mem_cons_self)) ?_
            rotate_left
            · (intro w' hSw; (try dsimp only at hSw); go_simp; try with_reducible rfl)
            try simp only [Act.put, List.setIfInBounds_toArray, List.set_cons_zero, List.set_cons_succ]
            refine wpAnyM_take (i := 2) (v := ?_) (by simp only [List.getElem?_toArray, List.getElem?_cons_succ, List.getElem?_cons_zero]; rfl) (by kernel_rfl) (by kernel_rfl) (by kernel_rfl) (by kernel_rfl) (by exact fun _ _ _ h => h) (Or.inl ⟨by rfl, ?_⟩) (HS17.out _ (T1.out.row (List.mem_cons_of_mem _ List.mem_cons_self)) (T1.out.row List.mem_cons_self)) ?_
            rotate_left
            · (intro w' hSw; (try dsimp only at hSw); go_simp; try with_reducible rfl)
            try simp only [Act.put, List.setIfInBounds_toArray, List.set_cons_zero, List.set_cons_succ]
            refine wpAnyM_take (i := 4) (v := ?_) (by simp only [List.getElem?_toArray, List.getElem?_cons_succ, List.getElem?_cons_zero]; rfl) (by kernel_rfl) (by kernel_rfl) (by kernel_rfl) (by kernel_rfl) (by exact fun _ _ _ h => h) (Or.inl ⟨by rfl, ?_⟩) (HS17.out _ (T1.out.row (List.mem_cons_of_mem _ List.mem_cons_self)) (T1.out.row List.mem_cons_self)) ?_
            rotate_left
            · (intro w' hSw; (try dsimp only at hSw); go_simp; try with_reducible rfl)
            try simp only [Act.put, List.setIfInBounds_toArray, List.set_cons_zero, List.set_cons_succ]
            refine wpAnyM_take (i := 6) (v := ?_) (by simp only [List.getElem?_toArray, List.getElem?_cons_succ, List.getElem?_cons_zero]; rfl) (by kernel_rfl) (by kernel_rfl) (by kernel_rfl) (by kernel_rfl) (by exact fun _ _ _ h => h) (Or.inl ⟨by rfl, ?_⟩) (HS17.out _ (T1.out.row (List.mem_cons_of_mem _ List.mem_cons_self)) (T1.out.row List.mem_cons_self)) ?_
            rotate_left
            · (intro w' hSw; (try dsimp only at hSw); go_simp; try with_reducible rfl)
            try simp only [Act.put, List.setIfInBounds_toArray, List.set_cons_zero, List.set_cons_succ]
            refine wpAnyM_one (i := 3) (by kernel_rfl) (by simp only [List.getElem?_toArray, List.getElem?_cons_succ, List.getElem?_cons_zero]; rfl) ?_
            go_wp2_with (go_at_call 15; refine (wof_any K kn kc hs u1 (HRC.out.below T1.out.bel) Hd.out.2.1.len).mono ?_; rintro e u2 ⟨K9, kc9, rfl, hO, hB⟩; (have T2 := Aside0.mk (T1.out.step hB)); (have Q2 := Aside0.mk (Q1.out.below hB)); (have O2 := Aside0.mk hO.rc); clear hO hB)
            refine ⟨HS17.out _ (T2.out.row (List.mem_cons_of_mem _ List.mem_cons_self)) (T2.out.row List.mem_cons_self), ?_⟩
            try simp only [Act.put, List.setIfInBounds_toArray, List.set_cons_zero, List.set_cons_succ]
            refine wpAnyM_one (i := 5) (by kernel_rfl) (by simp only [List.getElem?_toArray, List.getElem?_cons_succ, List.getElem?_cons_zero]; rfl) ?_
            go_wp2_with (go_at_call 26; refine (pright_any K9 kn kc9 hs l ⟨ge, ph, tg, tx, rt, pg, li, cu⟩ A' c' u2 O2.out Hd.out.2.1.len HHS.out.hl (Hd.out.2.2.2.1.below T2.out.bel) (by have := HFW.out.2.2.1; show pg ≤ 1000000; omega)).mono ?_; rintro e u3 ⟨rfl, hB⟩; rw [HRR.out]; (have T3 := Aside0.mk (T2.out.step hB)); (have Q3 := Aside0.mk (Q2.out.below hB)); clear hB)
            refine ⟨HS17.out _ (T3.out.row (List.mem_cons_of_mem _ List.mem_cons_self)) (T3.out.row List.mem_cons_self), ?_⟩
            try simp only [Act.put, List.setIfInBounds_toArray, List.set_cons_zero, List.set_cons_succ]
            refine wpAnyM_take (i := 7) (v := ?_) (by simp only [List.getElem?_toArray, List.getElem?_cons_succ, List.getElem?_cons_zero]; rfl) (by kernel_rfl) (by kernel_rfl) (by kernel_rfl) (by kernel_rfl) (by exact fun _ _ _ h => h) (Or.inl ⟨by rfl, ?_⟩) (HS17.out _ (T3.out.row (List.mem_cons_of_mem _ List.mem_cons_self)) (T3.out.row List.mem_cons_self)) ?_
            rotate_left
            · (intro w' hSw; (try dsimp only at hSw); go_simp; try with_reducible rfl)
            try simp only [Act.put, List.setIfInBounds_toArray, List.set_cons_zero, List.set_cons_succ]
            refine wpAnyM_take (i := 8) (v := ?_) (by simp only [List.getElem?_toArray, List.getElem?_cons_succ, List.getElem?_cons_zero]; rfl) (by kernel_rfl) (by kernel_rfl) (by kernel_rfl) (by kernel_rfl) (by exact fun _ _ _ h => h) (Or.inl ⟨by rfl, ?_⟩) (HS17.out _ (T3.out.row (List.mem_cons_of_mem _ List.mem_cons_self)) (T3.out.row List.mem_cons_self)) ?_
            rotate_left
            · (intro w' hSw; (try dsimp only at hSw); go_simp; try with_reducible rfl)
            try simp only [Act.put, List.setIfInBounds_toArray, List.set_cons_zero, List.set_cons_succ]
            refine wpAnyM_take (i := 9) (v := ?_) (by simp only [List.getElem?_toArray, List.getElem?_cons_succ, List.getElem?_cons_zero]; rfl) (by kernel_rfl) (by kernel_rfl) (by kernel_rfl) (by kernel_rfl) (by exact fun _ _ _ h => h) (Or.inl ⟨by rfl, ?_⟩) (HS17.out _ (T3.out.row (List.mem_cons_of_mem _ List.mem_cons_self)) (T3.out.row List.mem_cons_self)) ?_
            rotate_left
            · (intro w' hSw; (try dsimp only at hSw); go_simp; try with_reducible rfl)
            try simp only [Act.put, List.setIfInBounds_toArray, List.set_cons_zero, List.set_cons_succ]
            refine wpAnyM_take (i := 10) (v := ?_) (by simp only [List.getElem?_toArray, List.getElem?_cons_succ, List.getElem?_cons_zero]; rfl) (by kernel_rfl) (by kernel_rfl) (by kernel_rfl) (by kernel_rfl) (by exact fun _ _ _ h => h) (Or.inl ⟨by rfl, ?_⟩) (HS17.out _ (T3.out.row (List.mem_cons_of_mem _ List.mem_cons_self)) (T3.out.row List.mem_cons_self)) ?_
            rotate_left
            · (intro w' hSw; (try dsimp only at hSw); go_simp; try with_reducible rfl)
            try simp only [Act.put, List.setIfInBounds_toArray, List.set_cons_zero, List.set_cons_succ]
            refine wpAnyM_take (i := 11) (v := ?_) (by simp only [List.getElem?_toArray, List.getElem?_cons_succ, List.getElem?_cons_zero]; rfl) (by kernel_rfl) (by kernel_rfl) (by kernel_rfl) (by kernel_rfl) (by exact fun _ _ _ h => h) (Or.inl ⟨by rfl, ?_⟩) (HS17.out _ (T3.out.row (List.mem_cons_of_mem _ List.mem_cons_self)) (T3.out.row List.mem_cons_self)) ?_
            rotate_left
            · (intro w' hSw; (try dsimp only at hSw); go_simp; try with_reducible rfl)
            try simp only [Act.put, List.setIfInBounds_toArray, List.set_cons_zero, List.set_cons_succ]
            refine wpAnyM_take (i := 12) (v := ?_) (by simp only [List.getElem?_toArray, List.getElem?_cons_succ, List.getElem?_cons_zero]; rfl) (by kernel_rfl) (by kernel_rfl) (by kernel_rfl) (by kernel_rfl) (by exact fun _ _ _ h => h) (Or.inl ⟨by rfl, ?_⟩) (HS17.out _ (T3.out.row (List.mem_cons_of_mem _ List.mem_cons_self)) (T3.out.row List.mem_cons_self)) ?_
            rotate_left
            · (intro w' hSw; (try dsimp only at hSw); go_simp; try with_reducible rfl)
            try simp only [Act.put, List.setIfInBounds_toArray, List.set_cons_zero, List.set_cons_succ]
            refine wpAnyM_take (i := 13) (v := ?_) (by simp only [List.getElem?_toArray, List.getElem?_cons_succ, List.getElem?_cons_zero]; rfl) (by kernel_rfl) (by kernel_rfl) (by kernel_rfl) (by kernel_rfl) (by exact fun _ _ _ h => h) (Or.inl ⟨by rfl, ?_⟩) (HS17.out _ (T3.out.row (List.mem_cons_of_mem _ List.mem_cons_self)) (T3.out.row List.mem_cons_self)) ?_
            rotate_left
            · (intro w' hSw; (try dsimp only at hSw); go_simp; try with_reducible rfl)
            try simp only [Act.put, List.setIfInBounds_toArray, List.set_cons_zero, List.set_cons_succ]
            refine wpAnyM_take (i := 14) (v := ?_) (by simp only [List.getElem?_toArray, List.getElem?_cons_succ, List.getElem?_cons_zero]; rfl) (by kernel_rfl) (by kernel_rfl) (by kernel_rfl) (by kernel_rfl) (by exact fun _ _ _ h => h) (Or.inl ⟨by rfl, ?_⟩) (HS17.out _ (T3.out.row (List.mem_cons_of_mem _ List.mem_cons_self)) (T3.out.row List.mem_cons_self)) ?_
            rotate_left
            · (intro w' hSw; (try dsimp only at hSw); go_simp; try with_reducible rfl)
            try simp only [Act.put, List.setIfInBounds_toArray, List.set_cons_zero, List.set_cons_succ]
            refine wpAnyM_take (i := 15) (v := ?_) (by simp only [List.getElem?_toArray, List.getElem?_cons_succ, List.getElem?_cons_zero]; rfl) (by kernel_rfl) (by kernel_rfl) (by kernel_rfl) (by kernel_rfl) (by exact fun _ _ _ h => h) (Or.inl ⟨by rfl, ?_⟩) (HS17.out _ (T3.out.row (List.mem_cons_of_mem _ List.mem_cons_self)) (T3.out.row List.mem_cons_self)) ?_
            rotate_left
            · (intro w' hSw; (try dsimp only at hSw); go_simp; try with_reducible rfl)
            try simp only [Act.put, List.setIfInBounds_toArray, List.set_cons_zero, List.set_cons_succ]
            refine wpAnyM_take (i := 16) (v := ?_) (by simp only [List.getElem?_toArray, List.getElem?_cons_succ, List.getElem?_cons_zero]; rfl) (by kernel_rfl) (by kernel_rfl) (by kernel_rfl) (by kernel_rfl) (by exact fun _ _ _ h => h) (Or.inl ⟨by rfl, ?_⟩) (HS17.out _ (T3.out.row (List.mem_cons_of_mem _ List.mem_cons_self)) (T3.out.row List.mem_cons_self)) ?_
            rotate_left
            · (intro w' hSw; (try dsimp only at hSw); go_simp; try with_reducible rfl)
            try simp only [Act.put, List.setIfInBounds_toArray, List.set_cons_zero, List.set_cons_succ]
            have cS := stands_h T3.out A9 n9 c9 B9 m9 e9 hs9 Q3.out (by have h1 := Q3.out.bl.len; have h2 := T3.out.ok.len; have h3 := T3.out.nlim; rw [HSL.out.1] at h2 h3; have h4 := HSZ9.out; rw [HSL.out.1] at h4; omega)
            unfold rv at cS
            refine wpAnyM_one (i := 17) (by kernel_rfl) (by simp only [List.getElem?_toArray, List.getElem?_cons_succ, List.getElem?_cons_zero]; rfl) ?_
            go_wp2_with (go_at_call 27; go_loud (refine cS.mono ?_; rintro e u4 ⟨rfl, hB⟩; (have T4 := Aside0.mk (T3.out.step hB)); clear hB))
            refine ⟨HS17.out _ (T4.out.row (List.mem_cons_of_mem _ List.mem_cons_self)) (T4.out.row List.mem_cons_self), ?_⟩
            try simp only [Act.put, List.setIfInBounds_toArray, List.set_cons_zero, List.set_cons_succ]
            clear cS
            refine wpAnyM_take (i := 18) (v := ?_) (by simp only [List.getElem?_toArray, List.getElem?_cons_succ, List.getElem?_cons_zero]; rfl) (by kernel_rfl) (by kernel_rfl) (by kernel_rfl) (by kernel_rfl) (by exact fun _ _ _ h => h) (Or.inl ⟨by rfl, ?_⟩) (HS17.out _ (T4.out.row (List.mem_cons_of_mem _ List.mem_cons_self)) (T4.out.row List.mem_cons_self)) ?_
            rotate_left
            · (intro w' hSw; (try dsimp only at hSw); go_simp; try with_reducible rfl)
            try simp only [Act.put, List.setIfInBounds_toArray, List.set_cons_zero, List.set_cons_succ]
            refine wpAnyM_take (i := 19) (v := ?_) (by simp only [List.getElem?_toArray, List.getElem?_cons_succ, List.getElem?_cons_zero]; rfl) (by kernel_rfl) (by kernel_rfl) (by kernel_rfl) (by kernel_rfl) (by exact fun _ _ _ h => h) (Or.inl ⟨by rfl, ?_⟩) (HS17.out _ (T4.out.row (List.mem_cons_of_mem _ List.mem_cons_self)) (T4.out.row List.mem_cons_self)) ?_
            rotate_left
            · (intro w' hSw; (try dsimp only at hSw); go_simp; try with_reducible rfl)
            try simp only [Act.put, List.setIfInBounds_toArray, List.set_cons_zero, List.set_cons_succ]
            refine wpAnyM_take (i := 20) (v := ?_) (by simp only [List.getElem?_toArray, List.getElem?_cons_succ, List.getElem?_cons_zero]; rfl) (by kernel_rfl) (by kernel_rfl) (by kernel_rfl) (by kernel_rfl) (by exact fun _ _ _ h => h) (Or.inl ⟨by rfl, ?_⟩) (HS17.out _ (T4.out.row (List.mem_cons_of_mem _ List.mem_cons_self)) (T4.out.row List.mem_cons_self)) ?_
            rotate_left
            · (intro w' hSw; (try dsimp only at hSw); go_simp; try with_reducible rfl)
            try simp only [Act.put, List.setIfInBounds_toArray, List.set_cons_zero, List.set_cons_succ]
            refine wpAnyM_take (i := 22) (v := ?_) (by simp only [List.getElem?_toArray, List.getElem?_cons_succ, List.getElem?_cons_zero]; rfl) (by kernel_rfl) (by kernel_rfl) (by kernel_rfl) (by kernel_rfl) (by exact fun _ _ _ h => h) (Or.inl ⟨by rfl, ?_⟩) (HS17.out _ (T4.out.row (List.mem_cons_of_mem _ List.mem_cons_self)) (T4.out.row List.mem_cons_self)) ?_
            rotate_left
            · (intro w' hSw; (try dsimp only at hSw); go_simp; try with_reducible rfl)
            try simp only [Act.put, List.setIfInBounds_toArray, List.set_cons_zero, List.set_cons_succ]
            refine wpAnyM_one (i := 21) (by kernel_rfl) (by simp only [List.getElem?_toArray, List.getElem?_cons_succ, List.getElem?_cons_zero]; rfl) ?_
            go_wp2_with (go_at_call 28; refine (pages_h T4.out (List.mem_cons_of_mem _ (List.mem_cons_of_mem _ List.mem_cons_self))).mono ?_; rintro e u5 ⟨rfl, rfl⟩; rw [HSL.out.1])
            refine ⟨HS17.out _ (T4.out.row (List.mem_cons_of_mem _ List.mem_cons_self)) (T4.out.row List.mem_cons_self), ?_⟩
            try simp only [Act.put, List.setIfInBounds_toArray, List.set_cons_zero, List.set_cons_succ]
            refine wpAnyM_one (i := 23) (by kernel_rfl) (by simp only [List.getElem?_toArray, List.getElem?_cons_succ, List.getElem?_cons_zero]; rfl) ?_
            go_wp2_with (go_at_call 29; refine (size_h T4.out).mono ?_; rintro e u5 ⟨rfl, rfl⟩; rw [HSL.out.1])
            refine ⟨HS17.out _ (T4.out.row (List.mem_cons_of_mem _ List.mem_cons_self)) (T4.out.row List.mem_cons_self), ?_⟩
            try simp only [Act.put, List.setIfInBounds_toArray, List.set_cons_zero, List.set_cons_succ]
            refine wpAnyM_take (i := 24) (v := ?_) (by simp only [List.getElem?_toArray, List.getElem?_cons_succ, List.getElem?_cons_zero]; rfl) (by kernel_rfl) (by kernel_rfl) (by kernel_rfl) (by kernel_rfl) (by exact fun _ _ _ h => h) (Or.inl ⟨by rfl, ?_⟩) (HS17.out _ (T4.out.row (List.mem_cons_of_mem _ List.mem_cons_self)) (T4.out.row List.mem_cons_self)) ?_
            rotate_left
            · (intro w' hSw; (try dsimp only at hSw); go_simp; try with_reducible rfl)
            try simp only [Act.put, List.setIfInBounds_toArray, List.set_cons_zero, List.set_cons_succ]
            refine wpAnyM_take (i := 25) (v := ?_) (by simp only [List.getElem?_toArray, List.getElem?_cons_succ, List.getElem?_cons_zero]; rfl) (by kernel_rfl) (by kernel_rfl) (by kernel_rfl) (by kernel_rfl) (by exact fun _ _ _ h => h) (Or.inl ⟨by rfl, ?_⟩) (HS17.out _ (T4.out.row (List.mem_cons_of_mem _ List.mem_cons_self)) (T4.out.row List.mem_cons_self)) ?_
            rotate_left
            · (intro w' hSw; (try dsimp only at hSw); go_simp; try with_reducible rfl)
            try simp only [Act.put, List.setIfInBounds_toArray, List.set_cons_zero, List.set_cons_succ]
            refine wpAnyM_take (i := 26) (v := ?_) (by simp only [List.getElem?_toArray, List.getElem?_cons_succ, List.getElem?_cons_zero]; rfl) (by kernel_rfl) (by kernel_rfl) (by kernel_rfl) (by kernel_rfl) (by exact fun _ _ _ h => h) (Or.inl ⟨by rfl, ?_⟩) (HS17.out _ (T4.out.row (List.mem_cons_of_mem _ List.mem_cons_self)) (T4.out.row List.mem_cons_self)) ?_
            rotate_left
            · (intro w' hSw; (try dsimp only at hSw); go_simp; try with_reducible rfl)
            try simp only [Act.put, List.setIfInBounds_toArray, List.set_cons_zero, List.set_cons_succ]
            refine wpAnyM_take (i := 27) (v := ?_) (by simp only [List.getElem?_toArray, List.getElem?_cons_succ, List.getElem?_cons_zero]; rfl) (by kernel_rfl) (by kernel_rfl) (by kernel_rfl) (by kernel_rfl) (by exact fun _ _ _ h => h) (Or.inl ⟨by rfl, ?_⟩) (HS17.out _ (T4.out.row (List.mem_cons_of_mem _ List.mem_cons_self)) (T4.out.row List.mem_cons_self)) ?_
            rotate_left
            · (intro w' hSw; (try dsimp only at hSw); go_simp; try with_reducible rfl)
            try simp only [Act.put, List.setIfInBounds_toArray, List.set_cons_zero, List.set_cons_succ]
            refine wpAnyM_take (i := 28) (v := ?_) (by simp only [List.getElem?_toArray, List.getElem?_cons_succ, List.getElem?_cons_zero]; rfl) (by kernel_rfl) (by kernel_rfl) (by kernel_rfl) (by kernel_rfl) (by exact fun _ _ _ h => h) (Or.inl ⟨by rfl, ?_⟩) (HS17.out _ (T4.out.row (List.mem_cons_of_mem _ List.mem_cons_self)) (T4.out.row List.mem_cons_self)) ?_
            rotate_left
            · (intro w' hSw; (try dsimp only at hSw); go_simp; try with_reducible rfl)
            try simp only [Act.put, List.setIfInBounds_toArray, List.set_cons_zero, List.set_cons_succ]
            refine wpAnyM_take (i := 30) (v := ?_) (by simp only [List.getElem?_toArray, List.getElem?_cons_succ, List.getElem?_cons_zero]; rfl) (by kernel_rfl) (by kernel_rfl) (by kernel_rfl) (by kernel_rfl) (by exact fun _ _ _ h => h) (Or.inl ⟨by rfl, ?_⟩) (HS17.out _ (T4.out.row (List.mem_cons_of_mem _ List.mem_cons_self)) (T4.out.row List.mem_cons_self)) ?_
            rotate_left
            · (intro w' hSw; (try dsimp only at hSw); go_simp; try with_reducible rfl)
            try simp only [Act.put, List.setIfInBounds_toArray, List.set_cons_zero, List.set_cons_succ]
            refine wpAnyM_one (i := 29) (by kernel_rfl) (by simp only [List.getElem?_toArray, List.getElem?_cons_succ, List.getElem?_cons_zero]; rfl) ?_
            go_wp2_with (go_at_call 30; refine (plimit_h T4.out (List.mem_cons_of_mem _ (List.mem_cons_of_mem _ List.mem_cons_self))).mono ?_; rintro e u5 ⟨rfl, rfl⟩; rw [HSL.out.2])
            refine ⟨HS17.out _ (T4.out.row (List.mem_cons_of_mem _ List.mem_cons_self)) (T4.out.row List.mem_cons_self), ?_⟩
            try simp only [Act.put, List.setIfInBounds_toArray, List.set_cons_zero, List.set_cons_succ]
            refine wpAnyM_one (i := 31) (by kernel_rfl) (by simp only [List.getElem?_toArray, List.getElem?_cons_succ, List.getElem?_cons_zero]; rfl) ?_
            go_wp2_with (go_at_call 31; refine (limit_h T4.out).mono ?_; rintro e u5 ⟨rfl, rfl⟩; rw [HSL.out.2])
            refine ⟨HS17.out _ (T4.out.row (List.mem_cons_of_mem _ List.mem_cons_self)) (T4.out.row List.mem_cons_self), ?_⟩
            try simp only [Act.put, List.setIfInBounds_toArray, List.set_cons_zero, List.set_cons_succ]
            refine wpAnyM_take (i := 32) (v := ?_) (by simp only [List.getElem?_toArray, List.getElem?_cons_succ, List.getElem?_cons_zero]; rfl) (by kernel_rfl) (by kernel_rfl) (by kernel_rfl) (by kernel_rfl) (by exact fun _ _ _ h => h) (Or.inl ⟨by rfl, ?_⟩) (HS17.out _ (T4.out.row (List.mem_cons_of_mem _ List.mem_cons_self)) (T4.out.row List.mem_cons_self)) ?_
            rotate_left
            · (intro w' hSw; (try dsimp only at hSw); go_simp; try with_reducible rfl)
            try simp only [Act.put, List.setIfInBounds_toArray, List.set_cons_zero, List.set_cons_succ]
            refine wpAnyM_take (i := 33) (v := ?_) (by simp only [List.getElem?_toArray, List.getElem?_cons_succ, List.getElem?_cons_zero]; rfl) (by kernel_rfl) (by kernel_rfl) (by kernel_rfl) (by kernel_rfl) (by exact fun _ _ _ h => h) (Or.inl ⟨by rfl, ?_⟩) (HS17.out _ (T4.out.row (List.mem_cons_of_mem _ List.mem_cons_self)) (T4.out.row List.mem_cons_self)) ?_
            rotate_left
            · (intro w' hSw; (try dsimp only at hSw); go_simp; try with_reducible rfl)
            try simp only [Act.put, List.setIfInBounds_toArray, List.set_cons_zero, List.set_cons_succ]
            refine wpAnyM_take (i := 34) (v := ?_) (by simp only [List.getElem?_toArray, List.getElem?_cons_succ, List.getElem?_cons_zero]; rfl) (by kernel_rfl) (by kernel_rfl) (by kernel_rfl) (by kernel_rfl) (by exact fun _ _ _ h => h) (Or.inl ⟨by rfl, ?_⟩) (HS17.out _ (T4.out.row (List.mem_cons_of_mem _ List.mem_cons_self)) (T4.out.row List.mem_cons_self)) ?_
            rotate_left
            · (intro w' hSw; (try dsimp only at hSw); go_simp; try with_reducible rfl)
            try simp only [Act.put, List.setIfInBounds_toArray, List.set_cons_zero, List.set_cons_succ]
            refine wpAnyM_take (i := 35) (v := ?_) (by simp only [List.getElem?_toArray, List.getElem?_cons_succ, List.getElem?_cons_zero]; rfl) (by kernel_rfl) (by kernel_rfl) (by kernel_rfl) (by kernel_rfl) (by exact fun _ _ _ h => h) (Or.inl ⟨by rfl, ?_⟩) (HS17.out _ (T4.out.row (List.mem_cons_of_mem _ List.mem_cons_self)) (T4.out.row List.mem_cons_self)) ?_
            rotate_left
            · (intro w' hSw; (try dsimp only at hSw); go_simp; try with_reducible rfl)
            try simp only [Act.put, List.setIfInBounds_toArray, List.set_cons_zero, List.set_cons_succ]
            refine wpAnyM_done (by kernel_rfl) ?_ _
            go_wp2_with fail
            go_ret
            rw [hN'.out]
            exact ⟨rfl, by have h := below_then Hd.out.2.2.2.2.2 (by rw [← hN'.out]; exact Hd.out.2.2.2.2.2.size) T4.out.bel; exact h⟩
end Go.Proofs.Ythhalmjapiempaa
