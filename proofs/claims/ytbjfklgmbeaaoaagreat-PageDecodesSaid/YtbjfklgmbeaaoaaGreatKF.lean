/- The walks of page's reader: kid and item. -/
import Derived.Test.YtbjfklgmbeaaoaaGreatKE
set_option linter.unusedVariables false
set_option linter.unusedSimpArgs false
namespace Go.Proofs.YtbjfklgmbeaaoaaGreat
open Go.RowKit

/-- An item more. -/
theorem PgR.addItem {w : World} {gr rb : Nat} {Ar : Option Addr} {n c : Nat} {xs : List UInt8} {g : Int} {R : List (Nat × Obj)} {h : NH} {is : List IH} {ks : List KH} {v : NV} {a : Nat} {sp : Bool} {W w1 : World} {A2 : Option Addr} {c2 : Nat} {p : IH} {q : IV} (k : PgR w gr rb Ar n c xs g R h is ks v a sp W) (hO : Oc w1 w.heap.size 44 4 A2 (h.I.2.1 + 1) c2 (ihv is ++ ih4 p)) (hG : Grw h.I.1 W w1) (hA : A2 = h.I.1 ∨ A2 = some ⟨W.heap.size, 0, none⟩) (hb : Bsh W p.k q.k) (hb2 : Bsh W p.v q.v) (hi : In2 R p.k) (hi2 : In2 R p.v) (hs : p.s = q.s) (hr : p.r = q.r) :
    PgR w gr rb Ar n c xs g R ⟨h.leaf, (A2, h.I.2.1 + 1, c2), h.K⟩ (is ++ [p]) ks ⟨v.leaf, v.items ++ [q], v.kids⟩ a sp (w1.setCell ⟨rb, 3, none⟩ (.slice A2 (h.I.2.1 + 1) c2)) := by
  have ho := (OnlyB.refl rb w1).set 3 (.slice A2 (h.I.2.1 + 1) c2)
  have hgr := (Array.getElem?_eq_some_iff.1 k.cur.row).1
  have hrb := (Array.getElem?_eq_some_iff.1 k.row).1
  have kgr : ∀ j, h.I.1 = some ⟨j, 0, none⟩ → j ≠ gr ∧ j ≠ rb := k.pf.ni
  have n2 : ∀ i, i < W.heap.size → h.I.1 ≠ some ⟨i, 0, none⟩ → A2 ≠ some ⟨i, 0, none⟩ := fun i hi hne e => by
    rcases hA with rfl | rfl
    · exact hne e
    · injection e with e; injection e with e; omega
  have hgrow : w1.heap[rb]? = some (rdO gr g h) := (hG.block _ hrb (fun e => (kgr _ e).2 rfl)).trans k.row
  have hR : ∀ p ∈ R, (w1.setCell ⟨rb, 3, none⟩ (.slice A2 (h.I.2.1 + 1) c2)).heap[p.1]? = W.heap[p.1]? := fun p hp =>
    (ho.block _ (Nat.lt_of_lt_of_le (k.lt p hp) hG.size) (k.pf.rows p hp).2.1).trans (hG.block _ (k.lt p hp) (k.pf.rows p hp).2.2.1)
  have hbel : Below w.heap.size w w1 := ⟨hG.os.trans k.bel.os, hG.tape.trans k.bel.tape, hG.output.trans k.bel.output, Nat.le_trans k.bel.size hG.size, fun i hi => (hG.block i (Nat.lt_of_lt_of_le hi k.bel.size) (fun e => by have := k.oi.lo _ e; omega)).trans (k.bel.block i hi)⟩
  have hpr := k.pr.move k.pf hR
  have hp9 : ∀ z ∈ is ++ [p], In2 R z.k ∧ In2 R z.v := fun z hz => by
    rcases List.mem_append.1 hz with hz | hz
    · exact k.pf.inI z hz
    · obtain rfl := List.mem_singleton.1 hz
      exact ⟨hi, hi2⟩
  refine ⟨⟨(ho.block _ (Nat.lt_of_lt_of_le hgr hG.size) k.pf.lo.2.2).trans ((hG.block _ hgr (fun e => (kgr _ e).1 rfl)).trans k.cur.row), k.cur.le, k.cur.lim, k.cur.nc⟩, ?_, ho.below hbel k.pf.lo.2.1 (Nat.le_refl _), ?_, ?_, ⟨hpr.bs, ⟨by rw [List.length_append, List.length_append, hpr.its.len]; rfl, fun j z hj => ?_⟩, hpr.kds, hpr.rows⟩, ⟨k.pf.lo, k.pf.ar, ?_, k.pf.nk, ?_, by rw [List.length_append, k.pf.li]; rfl, k.pf.lk, fun z hz => ?_, hp9, k.pf.inK, k.pf.leaf, k.pf.rlo⟩⟩
  · exact heap_setCell_same w1 rb 3 _ _ _ hgrow
  · rw [ihv_app]
    exact Oc.only (by simpa [ihv] using hO) ho (fun q e => by
      rcases hA with rfl | rfl
      · exact (kgr q e).2
      · injection e with e; injection e with e; omega)
  · exact (k.ok.kept (fun i e hi => hG.block i hi (fun e2 => k.pf.ik i i e2 e rfl))).only ho (fun q e => (k.pf.nk q e).2)
  · rcases Nat.lt_or_ge j is.length with hl | hl
    · rw [List.getElem?_append_left hl] at hj
      obtain ⟨u, hu, b⟩ := hpr.its.each j z hj
      exact ⟨u, by rw [List.getElem?_append_left (by rw [← k.pr.its.len]; exact hl)]; exact hu, b⟩
    · rw [List.getElem?_append_right hl] at hj
      have hz : j - is.length = 0 := by
        rcases Nat.eq_zero_or_pos (j - is.length) with h0 | h0
        · exact h0
        · rw [List.getElem?_eq_none (by simp; omega)] at hj; cases hj
      rw [hz] at hj
      injection hj with hj
      subst hj
      refine ⟨q, by rw [List.getElem?_append_right (by rw [← k.pr.its.len]; exact hl), ← k.pr.its.len, hz]; rfl, hi.bs hb hR, hi2.bs hb2 hR, hs, hr⟩
  · intro j e
    rcases hA with rfl | rfl
    · exact kgr j e
    · simp only at e; injection e with e; injection e with e; omega
  · intro i j e1 e2
    simp only at e1 e2
    rcases hA with rfl | rfl
    · exact k.pf.ik i j e1 e2
    · have := k.ok.lt j e2
      injection e1 with e1; injection e1 with e1; omega
  · have hz1 := k.pf.rows z hz
    exact ⟨hz1.1, hz1.2.1, n2 _ (k.lt z hz) hz1.2.2.1, hz1.2.2.2⟩

theorem infoKd : (Tryz.prog.info? 74).map (fun i => (i.zero, i.size, i.bytes)) = some (some (.agg #[.slice none 0 0, .int .i64 0]), 2, 32) := by kernel_rfl
theorem infoIt : (Tryz.prog.info? 44).map (fun i => (i.zero, i.size, i.bytes)) = some (some (.agg #[.slice none 0 0, .slice none 0 0, .int .i64 0, .int .i64 0]), 4, 64) := by kernel_rfl
theorem rd_cells {X : World} {rb gr : Nat} {g : Int} {h : NH} (q : X.heap[rb]? = some (rdO gr g h)) : X.cell? ⟨rb, 0, none⟩ = some (.pointer (some ⟨gr, 0, none⟩)) ∧ X.cell? ⟨rb, 1, none⟩ = some (.int .i64 g) ∧ X.cell? ⟨rb, 3, none⟩ = some (.slice h.I.1 h.I.2.1 h.I.2.2) ∧ X.cell? ⟨rb, 4, none⟩ = some (.slice h.K.1 h.K.2.1 h.K.2.2) := by
  unfold rdO at q
  exact ⟨by rw [cell_of_row _ _ _ _ _ _ q]; rfl, by rw [cell_of_row _ _ _ _ _ _ q]; rfl, by rw [cell_of_row _ _ _ _ _ _ q]; rfl, by rw [cell_of_row _ _ _ _ _ _ q]; rfl⟩
theorem PgR.bsh {w : World} {gr rb : Nat} {Ar : Option Addr} {n c : Nat} {xs : List UInt8} {g : Int} {R R0 : List (Nat × Obj)} {h h0 : NH} {is is0 : List IH} {ks ks0 : List KH} {v v0 : NV} {a a0 : Nat} {sp sp0 : Bool} {W W0 : World} {hd : SH} {ys : List UInt8} (k : PgR w gr rb Ar n c xs g R h is ks v a sp W) (k0 : PgR w gr rb Ar n c xs g R0 h0 is0 ks0 v0 a0 sp0 W0) (hi : In2 R0 hd) (hb : Bsh W0 hd ys) (hs : ∀ p ∈ R0, p ∈ R) : Bsh W hd ys :=
  hi.bs hb (fun p hp => (k.pr.rows p (hs p hp)).trans (k0.pr.rows p hp).symm)
theorem PgR.s01 {w : World} {gr rb : Nat} {Ar : Option Addr} {n c : Nat} {xs : List UInt8} {g : Int} {R : List (Nat × Obj)} {h : NH} {is : List IH} {ks : List KH} {v : NV} {a : Nat} {sp : Bool} {W : World} (k : PgR w gr rb Ar n c xs g R h is ks v a sp W) : W.cell? ⟨rb, 0, none⟩ = some (.pointer (some ⟨gr, 0, none⟩)) ∧ W.cell? ⟨rb, 1, none⟩ = some (.int .i64 g) := ⟨(rd_cells k.row).1, (rd_cells k.row).2.1⟩

set_option maxHeartbeats 3000000 in
set_option maxRecDepth 100000 in
theorem rkid_any {w0 : World} {gr rb : Nat} {Ar : Option Addr} {n c : Nat} {xs : List UInt8} {g : Int} {R : List (Nat × Obj)} {lf : Bool} {IA KA : Option Addr} {In Ic Kn Kc : Nat} {is : List IH} {ks : List KH} {v : NV} {s : RSt} {W : World} (k : PgR w0 gr rb Ar n c xs g R ⟨lf, (IA, In, Ic), (KA, Kn, Kc)⟩ is ks v s.1 s.2 W) (hKn : Kn ≤ 1000) :
    Calls Tryz.prog 20 #[.pointer (some ⟨rb, 0, none⟩)] W fun e w' => ∃ R1 A2 c2 p, e = .returned (.tuple #[]) ∧ PgR w0 gr rb Ar n c xs g R1 ⟨lf, (IA, In, Ic), (A2, Kn + 1, c2)⟩ is (ks ++ [p]) ⟨v.leaf, v.items, v.kids ++ [(rdK n xs g s).1]⟩ (rdK n xs g s).2.1 (rdK n xs g s).2.2 w' := by
  have H0 := Aside0.mk k
  obtain ⟨y0, y1, y3, y4⟩ := rd_cells k.row
  clear k
  have HRK := Aside0.mk (show rdK n xs g s = (⟨rbV n xs (rgS n xs s 1) (rgV n xs s 1), rgV n xs (rbS n (rgS n xs s 1) (rgV n xs s 1)) (iwI g)⟩, rgS n xs (rbS n (rgS n xs s 1) (rgV n xs s 1)) (iwI g)) from rfl)
  go_enter Tryz.func20, Tryz.ntmps20
  go_upto_region 1 with (go_at_call 39; refine (pget H0.out 1).mono ?_; rintro e w1 ⟨rfl, hP, hO⟩; (have H1 := Aside0.mk hP); clear hP hO; clear y0 y1 y3 y4; (obtain ⟨y0, y1, y3, y4⟩ := rd_cells H1.out.row))
  obtain ⟨m1, hm1⟩ : ∃ x, rgV n xs s 1 = x := ⟨_, rfl⟩
  obtain ⟨s1, hs1⟩ : ∃ x, rgS n xs s 1 = x := ⟨_, rfl⟩
  rw [hs1] at H1
  rw [hm1, hs1] at HRK
  rw [hm1]
  clear hm1 hs1
  go_upto_region 2 with (go_at_call 53; refine (pbytes H1.out m1).mono ?_; rintro e w2 ⟨A1, n1, c1, R1, rfl, hb, hi, hs, hn, hP, hO⟩; (have H2 := Aside0.mk (And.intro hP (And.intro hb hi))); clear hb hi hs hn hP hO; clear y0 y1 y3 y4)
  have hA1 := H2.out.1.step ((Below.refl _ w2).alloc (Nat.le_refl _) (.cells #[.slice A1 n1 c1, .int .i64 0] 74))
  have hA2 := H2.out.1.box (.cells #[.slice A1 n1 c1, .int .i64 0] 74)
  obtain ⟨MB, hMB⟩ : ∃ X, w2.heap.size = X := ⟨_, rfl⟩
  obtain ⟨w3, hW⟩ : ∃ X, w2.alloc (.cells #[.slice A1 n1 c1, .int .i64 0] 74) = X := ⟨_, rfl⟩
  rw [hW] at hA1 hA2
  rw [hMB] at hA2
  rw [hW, hMB]
  have H3 := Aside0.mk (And.intro hA1 hA2)
  clear hA1 hA2 hW hMB
  obtain ⟨s2, hs2⟩ : ∃ x, rbS n s1 m1 = x := ⟨_, rfl⟩
  rw [hs2] at H2 H3
  rw [hs2] at HRK
  clear hs2
  have hA1 := H3.out.1.step (below_drew (Below.refl _ w3))
  have hA2 := H3.out.2.step (below_drew (Below.refl _ w3))
  obtain ⟨u0, hu0⟩ : ∃ X, w3.drew = X := ⟨_, rfl⟩
  rw [hu0] at hA1 hA2
  have H4 := Aside0.mk (And.intro hA1 hA2)
  clear hA1 hA2
  refine wp_region_M (fun j => decide (j < 10)) (fun w' => w'.cell? ⟨rb, 0, none⟩ = some (.pointer (some ⟨gr, 0, none⟩)) ∧ w'.cell? ⟨rb, 1, none⟩ = some (.int .i64 g)) (by kernel_rfl) ?_
  rw [hu0]
  clear hu0
  refine wpAnyM_take (i := 0) (v := ?_) (by simp only [List.getElem?_toArray, List.getElem?_cons_succ, List.getElem?_cons_zero]; rfl) (by kernel_rfl) (by kernel_rfl) (by kernel_rfl) (by kernel_rfl) (by exact fun _ _ _ h => h) (Or.inl ⟨by rfl, ?_⟩) H4.out.1.s01 ?_
  rotate_left
  · (intro w' hSw; (try dsimp only at hSw); go_simp; try with_reducible rfl)
  try simp only [Act.put, List.setIfInBounds_toArray, List.set_cons_zero, List.set_cons_succ]
  refine wpAnyM_take (i := 1) (v := ?_) (by simp only [List.getElem?_toArray, List.getElem?_cons_succ, List.getElem?_cons_zero]; rfl) (by kernel_rfl) (by kernel_rfl) (by kernel_rfl) (by kernel_rfl) (by exact fun _ _ _ h => h) (Or.inl ⟨by rfl, ?_⟩) H4.out.1.s01 ?_
  rotate_left
  · (intro w' hSw; (try dsimp only at hSw); go_simp; try with_reducible rfl)
  try simp only [Act.put, List.setIfInBounds_toArray, List.set_cons_zero, List.set_cons_succ]
  refine wpAnyM_take (i := 2) (v := ?_) (by simp only [List.getElem?_toArray, List.getElem?_cons_succ, List.getElem?_cons_zero]; rfl) (by kernel_rfl) (by kernel_rfl) (by kernel_rfl) (by kernel_rfl) (by exact fun _ _ _ h => h) (Or.inl ⟨by rfl, ?_⟩) H4.out.1.s01 ?_
  rotate_left
  · (intro w' hSw; (try dsimp only at hSw); go_simp; try with_reducible rfl)
  try simp only [Act.put, List.setIfInBounds_toArray, List.set_cons_zero, List.set_cons_succ]
  refine wpAnyM_take (i := 3) (v := ?_) (by simp only [List.getElem?_toArray, List.getElem?_cons_succ, List.getElem?_cons_zero]; rfl) (by kernel_rfl) (by kernel_rfl) (by kernel_rfl) (by kernel_rfl) (by exact fun _ _ _ h => h) (Or.inl ⟨by rfl, ?_⟩) H4.out.1.s01 ?_
  rotate_left
  · (intro w' hSw; (try dsimp only at hSw); go_simp; try with_reducible rfl)
  try simp only [Act.put, List.setIfInBounds_toArray, List.set_cons_zero, List.set_cons_succ]
  refine wpAnyM_take (i := 4) (v := ?_) (by simp only [List.getElem?_toArray, List.getElem?_cons_succ, List.getElem?_cons_zero]; rfl) (by kernel_rfl) (by kernel_rfl) (by kernel_rfl) (by kernel_rfl) (by exact fun _ _ _ h => h) (Or.inl ⟨by rfl, ?_⟩) H4.out.1.s01 ?_
  rotate_left
  · (intro w' hSw; (try dsimp only at hSw); go_simp; try with_reducible rfl)
  try simp only [Act.put, List.setIfInBounds_toArray, List.set_cons_zero, List.set_cons_succ]
  refine wpAnyM_take (i := 5) (v := ?_) (by simp only [List.getElem?_toArray, List.getElem?_cons_succ, List.getElem?_cons_zero]; rfl) (by kernel_rfl) (by kernel_rfl) (by kernel_rfl) (by kernel_rfl) (by exact fun _ _ _ h => h) (Or.inl ⟨by rfl, ?_⟩) H4.out.1.s01 ?_
  rotate_left
  · (intro w' hSw; (try dsimp only at hSw); go_simp; try with_reducible rfl)
  try simp only [Act.put, List.setIfInBounds_toArray, List.set_cons_zero, List.set_cons_succ]
  refine wpAnyM_take (i := 6) (v := ?_) (by simp only [List.getElem?_toArray, List.getElem?_cons_succ, List.getElem?_cons_zero]; rfl) (by kernel_rfl) (by kernel_rfl) (by kernel_rfl) (by kernel_rfl) (by exact fun _ _ _ h => h) (Or.inl ⟨by rfl, ?_⟩) H4.out.1.s01 ?_
  rotate_left
  · (intro w' hSw; (try dsimp only at hSw); go_simp; try with_reducible rfl)
  try simp only [Act.put, List.setIfInBounds_toArray, List.set_cons_zero, List.set_cons_succ]
  refine wpAnyM_take (i := 7) (v := ?_) (by simp only [List.getElem?_toArray, List.getElem?_cons_succ, List.getElem?_cons_zero]; rfl) (by kernel_rfl) (by kernel_rfl) (by kernel_rfl) (by kernel_rfl) (by exact fun _ _ _ h => h) (Or.inl ⟨by rfl, ?_⟩) H4.out.1.s01 ?_
  rotate_left
  · (intro w' hSw; (try dsimp only at hSw); go_simp; try with_reducible rfl)
  try simp only [Act.put, List.setIfInBounds_toArray, List.set_cons_zero, List.set_cons_succ]
  refine wpAnyM_one (i := 8) (by kernel_rfl) (by simp only [List.getElem?_toArray, List.getElem?_cons_succ, List.getElem?_cons_zero]; rfl) ?_
  go_wp2_with (go_at_call 42; refine (idWidth_any g u0).mono ?_; rintro e u1 ⟨rfl, hB⟩; (have H5 := Aside0.mk (And.intro (H4.out.1.step hB) (H4.out.2.step hB))); clear hB)
  refine ⟨H5.out.1.s01, ?_⟩
  try simp only [Act.put, List.setIfInBounds_toArray, List.set_cons_zero, List.set_cons_succ]
  refine wpAnyM_one (i := 9) (by kernel_rfl) (by simp only [List.getElem?_toArray, List.getElem?_cons_succ, List.getElem?_cons_zero]; rfl) ?_
  go_wp2_with (go_at_call 39; refine (pget H5.out.1 (iwI g)).mono ?_; rintro e u2 ⟨rfl, hP, hO⟩; (have H6 := Aside0.mk (And.intro hP (H5.out.2.go hO (fun p hp => .inl hp)))); clear hP hO)
  refine ⟨H6.out.1.s01, ?_⟩
  try simp only [Act.put, List.setIfInBounds_toArray, List.set_cons_zero, List.set_cons_succ]
  obtain ⟨m2, hm2⟩ : ∃ x, rgV n xs s2 (iwI g) = x := ⟨_, rfl⟩
  obtain ⟨s3, hs3⟩ : ∃ x, rgS n xs s2 (iwI g) = x := ⟨_, rfl⟩
  rw [hs3] at H6
  rw [hm2, hs3] at HRK
  rw [hm2]
  clear hm2 hs3
  refine wpAnyM_take (i := 10) (v := ?_) (by simp only [List.getElem?_toArray, List.getElem?_cons_succ, List.getElem?_cons_zero]; rfl) (by kernel_rfl) (by kernel_rfl) (by kernel_rfl) (by kernel_rfl) (by exact fun _ _ _ h => h) (Or.inl ⟨by rfl, ?_⟩) H6.out.1.s01 ?_
  rotate_left
  · (intro w' hSw; (try dsimp only at hSw); go_simp; try with_reducible rfl)
  try simp only [Act.put, List.setIfInBounds_toArray, List.set_cons_zero, List.set_cons_succ]
  refine wpAnyM_one (i := 11) (by kernel_rfl) (by simp only [List.getElem?_toArray, List.getElem?_cons_succ, List.getElem?_cons_zero]; rfl) ?_
  have hr6 : u2.heap[MB]? = some (.cells #[.slice A1 n1 c1, .int .i64 0] 74) := H6.out.2.row
  have yM := fun j => Go.Joins.unfrozen_of_block hr6 j
  have yN : u2.cell? ⟨MB, 1, none⟩ = some (.int .i64 0) := by rw [cell_of_row _ _ _ _ _ _ hr6]; rfl
  go_wp2_with fail
  have hA := H6.out.1.boxed H6.out.2 ((OnlyB.refl MB u2).set 1 (.int .i64 m2)) (heap_setCell_same u2 MB 1 _ _ (.int .i64 m2) hr6)
  obtain ⟨u3, hW⟩ : ∃ X, u2.setCell ⟨MB, 1, none⟩ (.int .i64 m2) = X := ⟨_, rfl⟩
  rw [hW] at hA
  rw [hW]
  have H7 := Aside0.mk hA
  clear hA hW hr6 yM yN
  try simp only [Act.put, List.setIfInBounds_toArray, List.set_cons_zero, List.set_cons_succ]
  refine wpAnyM_done (by kernel_rfl) ?_ _
  go_upto_region 3 with fail
  have HS3 := Aside0.mk (show ∀ X : World, X.heap[rb]? = some (rdO gr g ⟨lf, (IA, In, Ic), (KA, Kn, Kc)⟩) → X.heap[MB]? = some (.cells #[.slice A1 n1 c1, .int .i64 m2] 74) → (fun w' => w'.cell? ⟨rb, 4, none⟩ = some (.slice KA Kn Kc) ∧ w'.cell? ⟨MB, 0, none⟩ = some (.slice A1 n1 c1) ∧ w'.cell? ⟨MB, 1, none⟩ = some (.int .i64 m2)) X from fun X q1 q2 => ⟨(rd_cells q1).2.2.2, by rw [cell_of_row _ _ _ _ _ _ q2]; rfl, by rw [cell_of_row _ _ _ _ _ _ q2]; rfl⟩)
  have hA1 := H7.out.1.step (below_drew (Below.refl _ u3))
  have hA2 := H7.out.2.step (below_drew (Below.refl _ u3))
  obtain ⟨t0, hu0⟩ : ∃ X, u3.drew = X := ⟨_, rfl⟩
  rw [hu0] at hA1 hA2
  have HT := Aside0.mk (And.intro hA1 hA2)
  clear hA1 hA2
  refine wp_region_M (fun j => decide (j < 12)) (fun w' => w'.cell? ⟨rb, 4, none⟩ = some (.slice KA Kn Kc) ∧ w'.cell? ⟨MB, 0, none⟩ = some (.slice A1 n1 c1) ∧ w'.cell? ⟨MB, 1, none⟩ = some (.int .i64 m2)) (by kernel_rfl) ?_
  rw [hu0]
  clear hu0
  refine wpAnyM_take (i := 0) (v := ?_) (by simp only [List.getElem?_toArray, List.getElem?_cons_succ, List.getElem?_cons_zero]; rfl) (by kernel_rfl) (by kernel_rfl) (by kernel_rfl) (by kernel_rfl) (by exact fun _ _ _ h => h) (Or.inl ⟨by rfl, ?_⟩) (HS3.out _ HT.out.1.row HT.out.2.row) ?_
  rotate_left
  · (intro w' hSw; (try dsimp only at hSw); go_simp; try with_reducible rfl)
  try simp only [Act.put, List.setIfInBounds_toArray, List.set_cons_zero, List.set_cons_succ]
  refine wpAnyM_take (i := 1) (v := ?_) (by simp only [List.getElem?_toArray, List.getElem?_cons_succ, List.getElem?_cons_zero]; rfl) (by kernel_rfl) (by kernel_rfl) (by kernel_rfl) (by kernel_rfl) (by exact fun _ _ _ h => h) (Or.inl ⟨by rfl, ?_⟩) (HS3.out _ HT.out.1.row HT.out.2.row) ?_
  rotate_left
  · (intro w' hSw; (try dsimp only at hSw); go_simp; try with_reducible rfl)
  try simp only [Act.put, List.setIfInBounds_toArray, List.set_cons_zero, List.set_cons_succ]
  refine wpAnyM_take (i := 2) (v := ?_) (by simp only [List.getElem?_toArray, List.getElem?_cons_succ, List.getElem?_cons_zero]; rfl) (by kernel_rfl) (by kernel_rfl) (by kernel_rfl) (by kernel_rfl) (by exact fun _ _ _ h => h) (Or.inl ⟨by rfl, ?_⟩) (HS3.out _ HT.out.1.row HT.out.2.row) ?_
  rotate_left
  · (intro w' hSw; (try dsimp only at hSw); go_simp; try with_reducible rfl)
  try simp only [Act.put, List.setIfInBounds_toArray, List.set_cons_zero, List.set_cons_succ]
  refine wpAnyM_take (i := 3) (v := ?_) (by simp only [List.getElem?_toArray, List.getElem?_cons_succ, List.getElem?_cons_zero]; rfl) (by kernel_rfl) (by kernel_rfl) (by kernel_rfl) (by kernel_rfl) (by exact fun _ _ _ h => h) (Or.inl ⟨by rfl, ?_⟩) (HS3.out _ HT.out.1.row HT.out.2.row) ?_
  rotate_left
  · (intro w' hSw; (try dsimp only at hSw); go_simp; try with_reducible rfl)
  try simp only [Act.put, List.setIfInBounds_toArray, List.set_cons_zero, List.set_cons_succ]
  refine wpAnyM_take (i := 4) (v := ?_) (by simp only [List.getElem?_toArray, List.getElem?_cons_succ, List.getElem?_cons_zero]; rfl) (by kernel_rfl) (by kernel_rfl) (by kernel_rfl) (by kernel_rfl) (by exact fun _ _ _ h => h) (Or.inl ⟨by rfl, ?_⟩) (HS3.out _ HT.out.1.row HT.out.2.row) ?_
  rotate_left
  · (intro w' hSw; (try dsimp only at hSw); go_simp; try with_reducible rfl)
  try simp only [Act.put, List.setIfInBounds_toArray, List.set_cons_zero, List.set_cons_succ]
  refine wpAnyM_take (i := 5) (v := ?_) (by simp only [List.getElem?_toArray, List.getElem?_cons_succ, List.getElem?_cons_zero]; rfl) (by kernel_rfl) (by kernel_rfl) (by kernel_rfl) (by kernel_rfl) (by exact fun _ _ _ h => h) (Or.inl ⟨by rfl, ?_⟩) (HS3.out _ HT.out.1.row HT.out.2.row) ?_
  rotate_left
  · (intro w' hSw; (try dsimp only at hSw); go_simp; try with_reducible rfl)
  try simp only [Act.put, List.setIfInBounds_toArray, List.set_cons_zero, List.set_cons_succ]
  refine wpAnyM_take (i := 6) (v := ?_) (by simp only [List.getElem?_toArray, List.getElem?_cons_succ, List.getElem?_cons_zero]; rfl) (by kernel_rfl) (by kernel_rfl) (by kernel_rfl) (by kernel_rfl) (by exact fun _ _ _ h => h) (Or.inl ⟨by rfl, ?_⟩) (HS3.out _ HT.out.1.row HT.out.2.row) ?_
  rotate_left
  · (intro w' hSw; (try dsimp only at hSw); go_simp; try with_reducible rfl)
  try simp only [Act.put, List.setIfInBounds_toArray, List.set_cons_zero, List.set_cons_succ]
  refine wpAnyM_one (i := 7) (by kernel_rfl) (by simp only [List.getElem?_toArray, List.getElem?_cons_succ, List.getElem?_cons_zero]; rfl) ?_
  go_wp2_with fail
  have hA1 := HT.out.1.step ((Below.refl _ t0).alloc (Nat.le_refl _) (.cells #[.slice A1 n1 c1, .int .i64 m2] 74))
  have hA2 := HT.out.2.step ((Below.refl _ t0).alloc (Nat.le_refl _) (.cells #[.slice A1 n1 c1, .int .i64 m2] 74))
  have hl : (t0.alloc (.cells #[.slice A1 n1 c1, .int .i64 m2] 74)).rangeAt t0.heap.size 0 (kh2 ⟨(A1, n1, c1), m2⟩) := lit_range t0 #[.slice A1 n1 c1, .int .i64 m2] 74 [.slice A1 n1 c1, .int .i64 m2] rfl
  obtain ⟨NL, hNL⟩ : ∃ X, t0.heap.size = X := ⟨_, rfl⟩
  obtain ⟨t1, ht1⟩ : ∃ X, t0.alloc (.cells #[.slice A1 n1 c1, .int .i64 m2] 74) = X := ⟨_, rfl⟩
  rw [ht1] at hA1 hA2 hl
  rw [ht1]
  rw [hNL] at hl
  rw [hNL]
  have HU := Aside0.mk (And.intro hA1 (And.intro hA2 hl))
  clear hA1 hA2 hl hNL ht1
  refine ⟨HS3.out _ HU.out.1.row HU.out.2.1.row, ?_⟩
  try simp only [Act.put, List.setIfInBounds_toArray, List.set_cons_zero, List.set_cons_succ]
  refine wpAnyM_one (i := 8) (by kernel_rfl) (by simp only [List.getElem?_toArray, List.getElem?_cons_succ, List.getElem?_cons_zero]; rfl) ?_
  refine wpl_oc w0.heap.size (by rfl) (.tmp 32) (.tmp 34) 26 74 (.agg #[.slice none 0 0, .int .i64 0]) 2 32 (by rfl) Tryz.underlying26 infoKd rfl (by omega) (by omega) (by omega) KA Kn Kc NL (khv ks) (kh2 ⟨(A1, n1, c1), m2⟩) (by rfl) (by rfl) HU.out.1.ok rfl HU.out.2.2 (fun u hu => (khv_one [⟨(A1, n1, c1), m2⟩]) u (by simpa [khv] using hu)) HU.out.1.bel.size (by omega) ?_
  intro A2 c2 t2 hO hG hA
  have hbR := (hG.out.block _ (Array.getElem?_eq_some_iff.1 HU.out.1.row).1 (fun e => (HU.out.1.pf.nk _ e).2 rfl)).trans HU.out.1.row
  have hbM := (hG.out.block _ (Array.getElem?_eq_some_iff.1 HU.out.2.1.row).1 (fun e => HU.out.2.1.ne.2.2.2 e)).trans HU.out.2.1.row
  have HV := Aside0.mk (HS3.out _ hbR hbM)
  refine wpl_nil (And.intro rfl (And.intro (fun _ => HV.out) ?_))
  try simp only [Act.put, List.setIfInBounds_toArray, List.set_cons_zero, List.set_cons_succ]
  refine wpAnyM_take (i := 9) (v := ?_) (by simp only [List.getElem?_toArray, List.getElem?_cons_succ, List.getElem?_cons_zero]; rfl) (by kernel_rfl) (by kernel_rfl) (by kernel_rfl) (by kernel_rfl) (by exact fun _ _ _ h => h) (Or.inl ⟨by rfl, ?_⟩) HV.out ?_
  rotate_left
  · (intro w' hSw; (try dsimp only at hSw); go_simp; try with_reducible rfl)
  try simp only [Act.put, List.setIfInBounds_toArray, List.set_cons_zero, List.set_cons_succ]
  refine wpAnyM_take (i := 10) (v := ?_) (by simp only [List.getElem?_toArray, List.getElem?_cons_succ, List.getElem?_cons_zero]; rfl) (by kernel_rfl) (by kernel_rfl) (by kernel_rfl) (by kernel_rfl) (by exact fun _ _ _ h => h) (Or.inl ⟨by rfl, ?_⟩) HV.out ?_
  rotate_left
  · (intro w' hSw; (try dsimp only at hSw); go_simp; try with_reducible rfl)
  try simp only [Act.put, List.setIfInBounds_toArray, List.set_cons_zero, List.set_cons_succ]
  refine wpAnyM_take (i := 11) (v := ?_) (by simp only [List.getElem?_toArray, List.getElem?_cons_succ, List.getElem?_cons_zero]; rfl) (by kernel_rfl) (by kernel_rfl) (by kernel_rfl) (by kernel_rfl) (by exact fun _ _ _ h => h) (Or.inl ⟨by rfl, ?_⟩) HV.out ?_
  rotate_left
  · (intro w' hSw; (try dsimp only at hSw); go_simp; try with_reducible rfl)
  try simp only [Act.put, List.setIfInBounds_toArray, List.set_cons_zero, List.set_cons_succ]
  refine wpAnyM_one (i := 12) (by kernel_rfl) (by simp only [List.getElem?_toArray, List.getElem?_cons_succ, List.getElem?_cons_zero]; rfl) ?_
  have yM := fun j => Go.Joins.unfrozen_of_block hbR j
  have yN := HV.out.1
  go_wp2_with fail
  clear yM yN
  try simp only [Act.put, List.setIfInBounds_toArray, List.set_cons_zero, List.set_cons_succ]
  refine wpAnyM_done (by kernel_rfl) ?_ _
  go_end0
  have hF := HU.out.1.addKid (p := ⟨(A1, n1, c1), m2⟩) hO.out hG.out hA.out (q := ⟨rbV n xs s1 m1, m2⟩) (HU.out.1.bsh H2.out.1 H2.out.2.2 H2.out.2.1 (fun p hp => hp)) H2.out.2.2 rfl
  rw [HRK.out]
  exact ⟨R1, A2, c2, _, rfl, hF⟩

set_option maxHeartbeats 3000000 in
set_option maxRecDepth 100000 in
theorem ritem_any {w0 : World} {gr rb : Nat} {Ar : Option Addr} {n c : Nat} {xs : List UInt8} {g : Int} {R : List (Nat × Obj)} {lf : Bool} {IA KA : Option Addr} {In Ic Kn Kc : Nat} {is : List IH} {ks : List KH} {v : NV} {s : RSt} {W : World} (k : PgR w0 gr rb Ar n c xs g R ⟨lf, (IA, In, Ic), (KA, Kn, Kc)⟩ is ks v s.1 s.2 W) (hIn : In ≤ 1000) :
    Calls Tryz.prog 21 #[.pointer (some ⟨rb, 0, none⟩)] W fun e w' => ∃ R1 A2 c2 p, e = .returned (.tuple #[]) ∧ PgR w0 gr rb Ar n c xs g R1 ⟨lf, (A2, In + 1, c2), (KA, Kn, Kc)⟩ (is ++ [p]) ks ⟨v.leaf, v.items ++ [(rdI n xs g s).1], v.kids⟩ (rdI n xs g s).2.1 (rdI n xs g s).2.2 w' := by
  have H0 := Aside0.mk k
  obtain ⟨y0, y1, y3, y4⟩ := rd_cells k.row
  clear k
  have HRK := Aside0.mk (show rdI n xs g s = (let s1 := rgS n xs s 1; let s2 := rgS n xs s1 1; let s3 := rgS n xs s2 2
    let k := rbV n xs s3 (rgV n xs s 1); let s4 := rbS n s3 (rgV n xs s 1)
    if rgV n xs s1 1 = 0 then (⟨k, rbV n xs s4 (rgV n xs s2 2), 0, 0⟩, rbS n s4 (rgV n xs s2 2)) else (⟨k, [], rgV n xs s2 2, rgV n xs s4 (iwI g)⟩, rgS n xs s4 (iwI g))) from rfl)
  simp only at HRK
  go_enter Tryz.func21, Tryz.ntmps21
  go_upto_region 1 with (go_at_call 39; refine (pget H0.out 1).mono ?_; rintro e w1 ⟨rfl, hP, hO⟩; (have H1 := Aside0.mk hP); clear hP hO; clear y0 y1 y3 y4)
  obtain ⟨m1, hm1⟩ : ∃ x, rgV n xs s 1 = x := ⟨_, rfl⟩
  obtain ⟨s1, hs1⟩ : ∃ x, rgS n xs s 1 = x := ⟨_, rfl⟩
  rw [hs1] at H1
  rw [hm1, hs1] at HRK
  rw [hm1]
  clear hm1 hs1
  have h2 := H1.out.step (below_drew (Below.refl _ w1))
  obtain ⟨u0, hu0⟩ : ∃ X, w1.drew = X := ⟨_, rfl⟩
  rw [hu0] at h2
  have H2 := Aside0.mk h2
  clear h2
  refine wp_region_M (fun j => decide (j < 12)) (fun w' => w'.cell? ⟨rb, 0, none⟩ = some (.pointer (some ⟨gr, 0, none⟩)) ∧ w'.cell? ⟨rb, 1, none⟩ = some (.int .i64 g)) (by kernel_rfl) ?_
  rw [hu0]
  clear hu0
  refine wpAnyM_take (i := 0) (v := ?_) (by simp only [List.getElem?_toArray, List.getElem?_cons_succ, List.getElem?_cons_zero]; rfl) (by kernel_rfl) (by kernel_rfl) (by kernel_rfl) (by kernel_rfl) (by exact fun _ _ _ h => h) (Or.inl ⟨by rfl, ?_⟩) H2.out.s01 ?_
  rotate_left
  · (intro w' hSw; (try dsimp only at hSw); go_simp; try with_reducible rfl)
  try simp only [Act.put, List.setIfInBounds_toArray, List.set_cons_zero, List.set_cons_succ]
  refine wpAnyM_take (i := 1) (v := ?_) (by simp only [List.getElem?_toArray, List.getElem?_cons_succ, List.getElem?_cons_zero]; rfl) (by kernel_rfl) (by kernel_rfl) (by kernel_rfl) (by kernel_rfl) (by exact fun _ _ _ h => h) (Or.inl ⟨by rfl, ?_⟩) H2.out.s01 ?_
  rotate_left
  · (intro w' hSw; (try dsimp only at hSw); go_simp; try with_reducible rfl)
  try simp only [Act.put, List.setIfInBounds_toArray, List.set_cons_zero, List.set_cons_succ]
  refine wpAnyM_take (i := 2) (v := ?_) (by simp only [List.getElem?_toArray, List.getElem?_cons_succ, List.getElem?_cons_zero]; rfl) (by kernel_rfl) (by kernel_rfl) (by kernel_rfl) (by kernel_rfl) (by exact fun _ _ _ h => h) (Or.inl ⟨by rfl, ?_⟩) H2.out.s01 ?_
  rotate_left
  · (intro w' hSw; (try dsimp only at hSw); go_simp; try with_reducible rfl)
  try simp only [Act.put, List.setIfInBounds_toArray, List.set_cons_zero, List.set_cons_succ]
  refine wpAnyM_take (i := 3) (v := ?_) (by simp only [List.getElem?_toArray, List.getElem?_cons_succ, List.getElem?_cons_zero]; rfl) (by kernel_rfl) (by kernel_rfl) (by kernel_rfl) (by kernel_rfl) (by exact fun _ _ _ h => h) (Or.inl ⟨by rfl, ?_⟩) H2.out.s01 ?_
  rotate_left
  · (intro w' hSw; (try dsimp only at hSw); go_simp; try with_reducible rfl)
  try simp only [Act.put, List.setIfInBounds_toArray, List.set_cons_zero, List.set_cons_succ]
  refine wpAnyM_take (i := 5) (v := ?_) (by simp only [List.getElem?_toArray, List.getElem?_cons_succ, List.getElem?_cons_zero]; rfl) (by kernel_rfl) (by kernel_rfl) (by kernel_rfl) (by kernel_rfl) (by exact fun _ _ _ h => h) (Or.inl ⟨by rfl, ?_⟩) H2.out.s01 ?_
  rotate_left
  · (intro w' hSw; (try dsimp only at hSw); go_simp; try with_reducible rfl)
  try simp only [Act.put, List.setIfInBounds_toArray, List.set_cons_zero, List.set_cons_succ]
  refine wpAnyM_take (i := 6) (v := ?_) (by simp only [List.getElem?_toArray, List.getElem?_cons_succ, List.getElem?_cons_zero]; rfl) (by kernel_rfl) (by kernel_rfl) (by kernel_rfl) (by kernel_rfl) (by exact fun _ _ _ h => h) (Or.inl ⟨by rfl, ?_⟩) H2.out.s01 ?_
  rotate_left
  · (intro w' hSw; (try dsimp only at hSw); go_simp; try with_reducible rfl)
  try simp only [Act.put, List.setIfInBounds_toArray, List.set_cons_zero, List.set_cons_succ]
  refine wpAnyM_take (i := 7) (v := ?_) (by simp only [List.getElem?_toArray, List.getElem?_cons_succ, List.getElem?_cons_zero]; rfl) (by kernel_rfl) (by kernel_rfl) (by kernel_rfl) (by kernel_rfl) (by exact fun _ _ _ h => h) (Or.inl ⟨by rfl, ?_⟩) H2.out.s01 ?_
  rotate_left
  · (intro w' hSw; (try dsimp only at hSw); go_simp; try with_reducible rfl)
  try simp only [Act.put, List.setIfInBounds_toArray, List.set_cons_zero, List.set_cons_succ]
  refine wpAnyM_take (i := 8) (v := ?_) (by simp only [List.getElem?_toArray, List.getElem?_cons_succ, List.getElem?_cons_zero]; rfl) (by kernel_rfl) (by kernel_rfl) (by kernel_rfl) (by kernel_rfl) (by exact fun _ _ _ h => h) (Or.inl ⟨by rfl, ?_⟩) H2.out.s01 ?_
  rotate_left
  · (intro w' hSw; (try dsimp only at hSw); go_simp; try with_reducible rfl)
  try simp only [Act.put, List.setIfInBounds_toArray, List.set_cons_zero, List.set_cons_succ]
  refine wpAnyM_one (i := 4) (by kernel_rfl) (by simp only [List.getElem?_toArray, List.getElem?_cons_succ, List.getElem?_cons_zero]; rfl) ?_
  go_wp2_with (go_at_call 39; refine (pget H2.out 1).mono ?_; rintro e u1 ⟨rfl, hP, hO⟩; (have H3 := Aside0.mk hP); clear hP hO)
  refine ⟨H3.out.s01, ?_⟩
  try simp only [Act.put, List.setIfInBounds_toArray, List.set_cons_zero, List.set_cons_succ]
  obtain ⟨m2, hm2⟩ : ∃ x, rgV n xs s1 1 = x := ⟨_, rfl⟩
  obtain ⟨s2, hs2⟩ : ∃ x, rgS n xs s1 1 = x := ⟨_, rfl⟩
  rw [hs2] at H3
  rw [hm2, hs2] at HRK
  rw [hm2]
  clear hm2 hs2
  refine wpAnyM_one (i := 9) (by kernel_rfl) (by simp only [List.getElem?_toArray, List.getElem?_cons_succ, List.getElem?_cons_zero]; rfl) ?_
  go_wp2_with (go_at_call 39; refine (pget H3.out 2).mono ?_; rintro e u2 ⟨rfl, hP, hO⟩; (have H4 := Aside0.mk hP); clear hP hO)
  refine ⟨H4.out.s01, ?_⟩
  try simp only [Act.put, List.setIfInBounds_toArray, List.set_cons_zero, List.set_cons_succ]
  obtain ⟨m3, hm3⟩ : ∃ x, rgV n xs s2 2 = x := ⟨_, rfl⟩
  obtain ⟨s3, hs3⟩ : ∃ x, rgS n xs s2 2 = x := ⟨_, rfl⟩
  rw [hs3] at H4
  rw [hm3, hs3] at HRK
  rw [hm3]
  clear hm3 hs3
  refine wpAnyM_take (i := 10) (v := ?_) (by simp only [List.getElem?_toArray, List.getElem?_cons_succ, List.getElem?_cons_zero]; rfl) (by kernel_rfl) (by kernel_rfl) (by kernel_rfl) (by kernel_rfl) (by exact fun _ _ _ h => h) (Or.inl ⟨by rfl, ?_⟩) H4.out.s01 ?_
  rotate_left
  · (intro w' hSw; (try dsimp only at hSw); go_simp; try with_reducible rfl)
  try simp only [Act.put, List.setIfInBounds_toArray, List.set_cons_zero, List.set_cons_succ]
  refine wpAnyM_take (i := 11) (v := ?_) (by simp only [List.getElem?_toArray, List.getElem?_cons_succ, List.getElem?_cons_zero]; rfl) (by kernel_rfl) (by kernel_rfl) (by kernel_rfl) (by kernel_rfl) (by exact fun _ _ _ h => h) (Or.inl ⟨by rfl, ?_⟩) H4.out.s01 ?_
  rotate_left
  · (intro w' hSw; (try dsimp only at hSw); go_simp; try with_reducible rfl)
  try simp only [Act.put, List.setIfInBounds_toArray, List.set_cons_zero, List.set_cons_succ]
  refine wpAnyM_done (by kernel_rfl) ?_ _
  obtain ⟨y0, y1, y3, y4⟩ := rd_cells H4.out.row
  go_upto_region 3 with (go_at_call 53; refine (pbytes H4.out m1).mono ?_; rintro e w2 ⟨A1, n1, c1, R1, rfl, hb, hi, hs, hn, hP, hO⟩; (have H5 := Aside0.mk (And.intro hP (And.intro hb hi))); clear hb hi hs hn hP hO; clear y0 y1 y3 y4)
  have hA1 := H5.out.1.step ((Below.refl _ w2).alloc (Nat.le_refl _) (.cells #[.slice A1 n1 c1, .slice none 0 0, .int .i64 0, .int .i64 0] 44))
  have hA2 := H5.out.1.box (.cells #[.slice A1 n1 c1, .slice none 0 0, .int .i64 0, .int .i64 0] 44)
  obtain ⟨MB, hMB⟩ : ∃ X, w2.heap.size = X := ⟨_, rfl⟩
  obtain ⟨w3, hW⟩ : ∃ X, w2.alloc (.cells #[.slice A1 n1 c1, .slice none 0 0, .int .i64 0, .int .i64 0] 44) = X := ⟨_, rfl⟩
  rw [hW] at hA1 hA2
  rw [hMB] at hA2
  rw [hW, hMB]
  have H6 := Aside0.mk (And.intro hA1 hA2)
  clear hA1 hA2 hW hMB
  obtain ⟨s4, hs4⟩ : ∃ x, rbS n s3 m1 = x := ⟨_, rfl⟩
  rw [hs4] at H5 H6
  rw [hs4] at HRK
  clear hs4
  by_cases hf : m2 = 0
  case pos =>
    have HRI := Aside0.mk (HRK.out.trans (if_pos hf))
    subst hf
    obtain ⟨y0, y1, y3, y4⟩ := rd_cells H6.out.1.row
    have hr6 : w3.heap[MB]? = some (.cells #[.slice A1 n1 c1, .slice none 0 0, .int .i64 0, .int .i64 0] 44) := H6.out.2.row
    go_upto_region 6 with (go_at_call 53; refine (pbytes H6.out.1 m3).mono ?_; rintro e u3 ⟨A5, n5, c5, R5, rfl, hb, hi, hs, hn, hP, hO⟩; (have H7 := Aside0.mk (And.intro hP (H6.out.2.go hO hn))); (have H7b := Aside0.mk (And.intro hb (And.intro hi hs))); clear hb hi hs hn hP hO; clear y0 y1 y3 y4; clear hr6; have hr6 := H7.out.2.row; have yM := fun j => Go.Joins.unfrozen_of_block hr6 j; have yN : u3.cell? ⟨MB, 1, none⟩ = some (.slice none 0 0) := by rw [cell_of_row _ _ _ _ _ _ hr6]; rfl)
    have hA := H7.out.1.boxed H7.out.2 ((OnlyB.refl MB u3).set 1 (.slice A5 n5 c5)) (heap_setCell_same u3 MB 1 _ _ (.slice A5 n5 c5) hr6)
    obtain ⟨u4, hW⟩ : ∃ X, u3.setCell ⟨MB, 1, none⟩ (.slice A5 n5 c5) = X := ⟨_, rfl⟩
    rw [hW] at hA
    rw [hW]
    have H8 := Aside0.mk hA
    clear hA hW hr6 yM yN
    have HS3 := Aside0.mk (show ∀ X : World, X.heap[rb]? = some (rdO gr g ⟨lf, (IA, In, Ic), (KA, Kn, Kc)⟩) → X.heap[MB]? = some (.cells #[.slice A1 n1 c1, .slice A5 n5 c5, .int .i64 0, .int .i64 0] 44) → (fun w' => w'.cell? ⟨rb, 3, none⟩ = some (.slice IA In Ic) ∧ w'.cell? ⟨MB, 0, none⟩ = some (.slice A1 n1 c1) ∧ w'.cell? ⟨MB, 1, none⟩ = some (.slice A5 n5 c5) ∧ w'.cell? ⟨MB, 2, none⟩ = some (.int .i64 0) ∧ w'.cell? ⟨MB, 3, none⟩ = some (.int .i64 0)) X from fun X q1 q2 => ⟨(rd_cells q1).2.2.1, by rw [cell_of_row _ _ _ _ _ _ q2]; rfl, by rw [cell_of_row _ _ _ _ _ _ q2]; rfl, by rw [cell_of_row _ _ _ _ _ _ q2]; rfl, by rw [cell_of_row _ _ _ _ _ _ q2]; rfl⟩)
    have hA1 := H8.out.1.step (below_drew (Below.refl _ u4))
    have hA2 := H8.out.2.step (below_drew (Below.refl _ u4))
    obtain ⟨t0, hu0⟩ : ∃ X, u4.drew = X := ⟨_, rfl⟩
    rw [hu0] at hA1 hA2
    have HT := Aside0.mk (And.intro hA1 hA2)
    clear hA1 hA2
    refine wp_region_M (fun j => decide (j < 12)) (fun w' => w'.cell? ⟨rb, 3, none⟩ = some (.slice IA In Ic) ∧ w'.cell? ⟨MB, 0, none⟩ = some (.slice A1 n1 c1) ∧ w'.cell? ⟨MB, 1, none⟩ = some (.slice A5 n5 c5) ∧ w'.cell? ⟨MB, 2, none⟩ = some (.int .i64 0) ∧ w'.cell? ⟨MB, 3, none⟩ = some (.int .i64 0)) (by kernel_rfl) ?_
    rw [hu0]
    clear hu0
    refine wpAnyM_take (i := 0) (v := ?_) (by simp only [List.getElem?_toArray, List.getElem?_cons_succ, List.getElem?_cons_zero]; rfl) (by kernel_rfl) (by kernel_rfl) (by kernel_rfl) (by kernel_rfl) (by exact fun _ _ _ h => h) (Or.inl ⟨by rfl, ?_⟩) (HS3.out _ HT.out.1.row HT.out.2.row) ?_
    rotate_left
    · (intro w' hSw; (try dsimp only at hSw); go_simp; try with_reducible rfl)
    try simp only [Act.put, List.setIfInBounds_toArray, List.set_cons_zero, List.set_cons_succ]
    refine wpAnyM_take (i := 1) (v := ?_) (by simp only [List.getElem?_toArray, List.getElem?_cons_succ, List.getElem?_cons_zero]; rfl) (by kernel_rfl) (by kernel_rfl) (by kernel_rfl) (by kernel_rfl) (by exact fun _ _ _ h => h) (Or.inl ⟨by rfl, ?_⟩) (HS3.out _ HT.out.1.row HT.out.2.row) ?_
    rotate_left
    · (intro w' hSw; (try dsimp only at hSw); go_simp; try with_reducible rfl)
    try simp only [Act.put, List.setIfInBounds_toArray, List.set_cons_zero, List.set_cons_succ]
    refine wpAnyM_take (i := 2) (v := ?_) (by simp only [List.getElem?_toArray, List.getElem?_cons_succ, List.getElem?_cons_zero]; rfl) (by kernel_rfl) (by kernel_rfl) (by kernel_rfl) (by kernel_rfl) (by exact fun _ _ _ h => h) (Or.inl ⟨by rfl, ?_⟩) (HS3.out _ HT.out.1.row HT.out.2.row) ?_
    rotate_left
    · (intro w' hSw; (try dsimp only at hSw); go_simp; try with_reducible rfl)
    try simp only [Act.put, List.setIfInBounds_toArray, List.set_cons_zero, List.set_cons_succ]
    refine wpAnyM_take (i := 3) (v := ?_) (by simp only [List.getElem?_toArray, List.getElem?_cons_succ, List.getElem?_cons_zero]; rfl) (by kernel_rfl) (by kernel_rfl) (by kernel_rfl) (by kernel_rfl) (by exact fun _ _ _ h => h) (Or.inl ⟨by rfl, ?_⟩) (HS3.out _ HT.out.1.row HT.out.2.row) ?_
    rotate_left
    · (intro w' hSw; (try dsimp only at hSw); go_simp; try with_reducible rfl)
    try simp only [Act.put, List.setIfInBounds_toArray, List.set_cons_zero, List.set_cons_succ]
    refine wpAnyM_take (i := 4) (v := ?_) (by simp only [List.getElem?_toArray, List.getElem?_cons_succ, List.getElem?_cons_zero]; rfl) (by kernel_rfl) (by kernel_rfl) (by kernel_rfl) (by kernel_rfl) (by exact fun _ _ _ h => h) (Or.inl ⟨by rfl, ?_⟩) (HS3.out _ HT.out.1.row HT.out.2.row) ?_
    rotate_left
    · (intro w' hSw; (try dsimp only at hSw); go_simp; try with_reducible rfl)
    try simp only [Act.put, List.setIfInBounds_toArray, List.set_cons_zero, List.set_cons_succ]
    refine wpAnyM_take (i := 5) (v := ?_) (by simp only [List.getElem?_toArray, List.getElem?_cons_succ, List.getElem?_cons_zero]; rfl) (by kernel_rfl) (by kernel_rfl) (by kernel_rfl) (by kernel_rfl) (by exact fun _ _ _ h => h) (Or.inl ⟨by rfl, ?_⟩) (HS3.out _ HT.out.1.row HT.out.2.row) ?_
    rotate_left
    · (intro w' hSw; (try dsimp only at hSw); go_simp; try with_reducible rfl)
    try simp only [Act.put, List.setIfInBounds_toArray, List.set_cons_zero, List.set_cons_succ]
    refine wpAnyM_take (i := 6) (v := ?_) (by simp only [List.getElem?_toArray, List.getElem?_cons_succ, List.getElem?_cons_zero]; rfl) (by kernel_rfl) (by kernel_rfl) (by kernel_rfl) (by kernel_rfl) (by exact fun _ _ _ h => h) (Or.inl ⟨by rfl, ?_⟩) (HS3.out _ HT.out.1.row HT.out.2.row) ?_
    rotate_left
    · (intro w' hSw; (try dsimp only at hSw); go_simp; try with_reducible rfl)
    try simp only [Act.put, List.setIfInBounds_toArray, List.set_cons_zero, List.set_cons_succ]
    refine wpAnyM_one (i := 7) (by kernel_rfl) (by simp only [List.getElem?_toArray, List.getElem?_cons_succ, List.getElem?_cons_zero]; rfl) ?_
    go_wp2_with fail
    have hA1 := HT.out.1.step ((Below.refl _ t0).alloc (Nat.le_refl _) (.cells #[.slice A1 n1 c1, .slice A5 n5 c5, .int .i64 0, .int .i64 0] 44))
    have hA2 := HT.out.2.step ((Below.refl _ t0).alloc (Nat.le_refl _) (.cells #[.slice A1 n1 c1, .slice A5 n5 c5, .int .i64 0, .int .i64 0] 44))
    have hl : (t0.alloc (.cells #[.slice A1 n1 c1, .slice A5 n5 c5, .int .i64 0, .int .i64 0] 44)).rangeAt t0.heap.size 0 (ih4 ⟨(A1, n1, c1), (A5, n5, c5), 0, 0⟩) := lit_range t0 #[.slice A1 n1 c1, .slice A5 n5 c5, .int .i64 0, .int .i64 0] 44 [.slice A1 n1 c1, .slice A5 n5 c5, .int .i64 0, .int .i64 0] rfl
    obtain ⟨NL, hNL⟩ : ∃ X, t0.heap.size = X := ⟨_, rfl⟩
    obtain ⟨t1, ht1⟩ : ∃ X, t0.alloc (.cells #[.slice A1 n1 c1, .slice A5 n5 c5, .int .i64 0, .int .i64 0] 44) = X := ⟨_, rfl⟩
    rw [ht1] at hA1 hA2 hl
    rw [ht1]
    rw [hNL] at hl
    rw [hNL]
    have HU := Aside0.mk (And.intro hA1 (And.intro hA2 hl))
    clear hA1 hA2 hl hNL ht1
    refine ⟨HS3.out _ HU.out.1.row HU.out.2.1.row, ?_⟩
    try simp only [Act.put, List.setIfInBounds_toArray, List.set_cons_zero, List.set_cons_succ]
    refine wpAnyM_one (i := 8) (by kernel_rfl) (by simp only [List.getElem?_toArray, List.getElem?_cons_succ, List.getElem?_cons_zero]; rfl) ?_
    refine wpl_oc w0.heap.size (by rfl) (.tmp 55) (.tmp 57) 25 44 (.agg #[.slice none 0 0, .slice none 0 0, .int .i64 0, .int .i64 0]) 4 64 (by rfl) Tryz.underlying25 infoIt rfl (by omega) (by omega) (by omega) IA In Ic NL (ihv is) (ih4 ⟨(A1, n1, c1), (A5, n5, c5), 0, 0⟩) (by rfl) (by rfl) HU.out.1.oi rfl HU.out.2.2 (fun u hu => (ihv_one [⟨(A1, n1, c1), (A5, n5, c5), 0, 0⟩]) u (by simpa [ihv] using hu)) HU.out.1.bel.size (by omega) ?_
    intro A2 c2 t2 hO hG hA
    have hbR := (hG.out.block _ (Array.getElem?_eq_some_iff.1 HU.out.1.row).1 (fun e => (HU.out.1.pf.ni _ e).2 rfl)).trans HU.out.1.row
    have hbM := (hG.out.block _ (Array.getElem?_eq_some_iff.1 HU.out.2.1.row).1 (fun e => HU.out.2.1.ne.2.2.1 e)).trans HU.out.2.1.row
    have HV := Aside0.mk (HS3.out _ hbR hbM)
    refine wpl_nil (And.intro rfl (And.intro (fun _ => HV.out) ?_))
    try simp only [Act.put, List.setIfInBounds_toArray, List.set_cons_zero, List.set_cons_succ]
    refine wpAnyM_take (i := 9) (v := ?_) (by simp only [List.getElem?_toArray, List.getElem?_cons_succ, List.getElem?_cons_zero]; rfl) (by kernel_rfl) (by kernel_rfl) (by kernel_rfl) (by kernel_rfl) (by exact fun _ _ _ h => h) (Or.inl ⟨by rfl, ?_⟩) HV.out ?_
    rotate_left
    · (intro w' hSw; (try dsimp only at hSw); go_simp; try with_reducible rfl)
    try simp only [Act.put, List.setIfInBounds_toArray, List.set_cons_zero, List.set_cons_succ]
    refine wpAnyM_take (i := 10) (v := ?_) (by simp only [List.getElem?_toArray, List.getElem?_cons_succ, List.getElem?_cons_zero]; rfl) (by kernel_rfl) (by kernel_rfl) (by kernel_rfl) (by kernel_rfl) (by exact fun _ _ _ h => h) (Or.inl ⟨by rfl, ?_⟩) HV.out ?_
    rotate_left
    · (intro w' hSw; (try dsimp only at hSw); go_simp; try with_reducible rfl)
    try simp only [Act.put, List.setIfInBounds_toArray, List.set_cons_zero, List.set_cons_succ]
    refine wpAnyM_take (i := 11) (v := ?_) (by simp only [List.getElem?_toArray, List.getElem?_cons_succ, List.getElem?_cons_zero]; rfl) (by kernel_rfl) (by kernel_rfl) (by kernel_rfl) (by kernel_rfl) (by exact fun _ _ _ h => h) (Or.inl ⟨by rfl, ?_⟩) HV.out ?_
    rotate_left
    · (intro w' hSw; (try dsimp only at hSw); go_simp; try with_reducible rfl)
    try simp only [Act.put, List.setIfInBounds_toArray, List.set_cons_zero, List.set_cons_succ]
    refine wpAnyM_one (i := 12) (by kernel_rfl) (by simp only [List.getElem?_toArray, List.getElem?_cons_succ, List.getElem?_cons_zero]; rfl) ?_
    have yM := fun j => Go.Joins.unfrozen_of_block hbR j
    have yN := HV.out.1
    go_wp2_with fail
    clear yM yN
    try simp only [Act.put, List.setIfInBounds_toArray, List.set_cons_zero, List.set_cons_succ]
    refine wpAnyM_done (by kernel_rfl) ?_ _
    go_end0
    have hF := HU.out.1.addItem (p := ⟨(A1, n1, c1), (A5, n5, c5), 0, 0⟩) hO.out hG.out hA.out (q := ⟨rbV n xs s3 m1, rbV n xs s4 m3, 0, 0⟩) (HU.out.1.bsh H5.out.1 H5.out.2.2 H5.out.2.1 H7b.out.2.2) (HU.out.1.bsh H7.out.1 H7b.out.2.1 H7b.out.1 (fun p hp => hp)) (H5.out.2.2.sub H7b.out.2.2) H7b.out.2.1 rfl rfl
    rw [HRI.out]
    exact ⟨R5, A2, c2, _, rfl, hF⟩
  case neg =>
    have HRI := Aside0.mk (HRK.out.trans (if_neg hf))
    have g1 : (m2 == 0) = false := beq_eq_false_iff_ne.2 hf
    clear hf
    go_upto_region 5 with fail
    have hA1 := H6.out.1.step (below_drew (Below.refl _ w3))
    have hA2 := H6.out.2.step (below_drew (Below.refl _ w3))
    obtain ⟨v0, hu0⟩ : ∃ X, w3.drew = X := ⟨_, rfl⟩
    rw [hu0] at hA1 hA2
    have H7 := Aside0.mk (And.intro hA1 hA2)
    clear hA1 hA2
    refine wp_region_M (fun j => decide (j < 14)) (fun w' => w'.cell? ⟨rb, 0, none⟩ = some (.pointer (some ⟨gr, 0, none⟩)) ∧ w'.cell? ⟨rb, 1, none⟩ = some (.int .i64 g)) (by kernel_rfl) ?_
    rw [hu0]
    clear hu0
    refine wpAnyM_take (i := 0) (v := ?_) (by simp only [List.getElem?_toArray, List.getElem?_cons_succ, List.getElem?_cons_zero]; rfl) (by kernel_rfl) (by kernel_rfl) (by kernel_rfl) (by kernel_rfl) (by exact fun _ _ _ h => h) (Or.inl ⟨by rfl, ?_⟩) H7.out.1.s01 ?_
    rotate_left
    · (intro w' hSw; (try dsimp only at hSw); go_simp; try with_reducible rfl)
    try simp only [Act.put, List.setIfInBounds_toArray, List.set_cons_zero, List.set_cons_succ]
    refine wpAnyM_take (i := 1) (v := ?_) (by simp only [List.getElem?_toArray, List.getElem?_cons_succ, List.getElem?_cons_zero]; rfl) (by kernel_rfl) (by kernel_rfl) (by kernel_rfl) (by kernel_rfl) (by exact fun _ _ _ h => h) (Or.inl ⟨by rfl, ?_⟩) H7.out.1.s01 ?_
    rotate_left
    · (intro w' hSw; (try dsimp only at hSw); go_simp; try with_reducible rfl)
    try simp only [Act.put, List.setIfInBounds_toArray, List.set_cons_zero, List.set_cons_succ]
    refine wpAnyM_take (i := 2) (v := ?_) (by simp only [List.getElem?_toArray, List.getElem?_cons_succ, List.getElem?_cons_zero]; rfl) (by kernel_rfl) (by kernel_rfl) (by kernel_rfl) (by kernel_rfl) (by exact fun _ _ _ h => h) (Or.inl ⟨by rfl, ?_⟩) H7.out.1.s01 ?_
    rotate_left
    · (intro w' hSw; (try dsimp only at hSw); go_simp; try with_reducible rfl)
    try simp only [Act.put, List.setIfInBounds_toArray, List.set_cons_zero, List.set_cons_succ]
    refine wpAnyM_take (i := 3) (v := ?_) (by simp only [List.getElem?_toArray, List.getElem?_cons_succ, List.getElem?_cons_zero]; rfl) (by kernel_rfl) (by kernel_rfl) (by kernel_rfl) (by kernel_rfl) (by exact fun _ _ _ h => h) (Or.inl ⟨by rfl, ?_⟩) H7.out.1.s01 ?_
    rotate_left
    · (intro w' hSw; (try dsimp only at hSw); go_simp; try with_reducible rfl)
    try simp only [Act.put, List.setIfInBounds_toArray, List.set_cons_zero, List.set_cons_succ]
    refine wpAnyM_take (i := 4) (v := ?_) (by simp only [List.getElem?_toArray, List.getElem?_cons_succ, List.getElem?_cons_zero]; rfl) (by kernel_rfl) (by kernel_rfl) (by kernel_rfl) (by kernel_rfl) (by exact fun _ _ _ h => h) (Or.inl ⟨by rfl, ?_⟩) H7.out.1.s01 ?_
    rotate_left
    · (intro w' hSw; (try dsimp only at hSw); go_simp; try with_reducible rfl)
    try simp only [Act.put, List.setIfInBounds_toArray, List.set_cons_zero, List.set_cons_succ]
    refine wpAnyM_take (i := 5) (v := ?_) (by simp only [List.getElem?_toArray, List.getElem?_cons_succ, List.getElem?_cons_zero]; rfl) (by kernel_rfl) (by kernel_rfl) (by kernel_rfl) (by kernel_rfl) (by exact fun _ _ _ h => h) (Or.inl ⟨by rfl, ?_⟩) H7.out.1.s01 ?_
    rotate_left
    · (intro w' hSw; (try dsimp only at hSw); go_simp; try with_reducible rfl)
    try simp only [Act.put, List.setIfInBounds_toArray, List.set_cons_zero, List.set_cons_succ]
    refine wpAnyM_take (i := 6) (v := ?_) (by simp only [List.getElem?_toArray, List.getElem?_cons_succ, List.getElem?_cons_zero]; rfl) (by kernel_rfl) (by kernel_rfl) (by kernel_rfl) (by kernel_rfl) (by exact fun _ _ _ h => h) (Or.inl ⟨by rfl, ?_⟩) H7.out.1.s01 ?_
    rotate_left
    · (intro w' hSw; (try dsimp only at hSw); go_simp; try with_reducible rfl)
    try simp only [Act.put, List.setIfInBounds_toArray, List.set_cons_zero, List.set_cons_succ]
    refine wpAnyM_take (i := 7) (v := ?_) (by simp only [List.getElem?_toArray, List.getElem?_cons_succ, List.getElem?_cons_zero]; rfl) (by kernel_rfl) (by kernel_rfl) (by kernel_rfl) (by kernel_rfl) (by exact fun _ _ _ h => h) (Or.inl ⟨by rfl, ?_⟩) H7.out.1.s01 ?_
    rotate_left
    · (intro w' hSw; (try dsimp only at hSw); go_simp; try with_reducible rfl)
    try simp only [Act.put, List.setIfInBounds_toArray, List.set_cons_zero, List.set_cons_succ]
    refine wpAnyM_take (i := 8) (v := ?_) (by simp only [List.getElem?_toArray, List.getElem?_cons_succ, List.getElem?_cons_zero]; rfl) (by kernel_rfl) (by kernel_rfl) (by kernel_rfl) (by kernel_rfl) (by exact fun _ _ _ h => h) (Or.inl ⟨by rfl, ?_⟩) H7.out.1.s01 ?_
    rotate_left
    · (intro w' hSw; (try dsimp only at hSw); go_simp; try with_reducible rfl)
    try simp only [Act.put, List.setIfInBounds_toArray, List.set_cons_zero, List.set_cons_succ]
    refine wpAnyM_take (i := 11) (v := ?_) (by simp only [List.getElem?_toArray, List.getElem?_cons_succ, List.getElem?_cons_zero]; rfl) (by kernel_rfl) (by kernel_rfl) (by kernel_rfl) (by kernel_rfl) (by exact fun _ _ _ h => h) (Or.inl ⟨by rfl, ?_⟩) H7.out.1.s01 ?_
    rotate_left
    · (intro w' hSw; (try dsimp only at hSw); go_simp; try with_reducible rfl)
    try simp only [Act.put, List.setIfInBounds_toArray, List.set_cons_zero, List.set_cons_succ]
    refine wpAnyM_one (i := 9) (by kernel_rfl) (by simp only [List.getElem?_toArray, List.getElem?_cons_succ, List.getElem?_cons_zero]; rfl) ?_
    go_wp2_with (go_at_call 42; refine (idWidth_any g v0).mono ?_; rintro e v1 ⟨rfl, hB⟩; (have H8 := Aside0.mk (And.intro (H7.out.1.step hB) (H7.out.2.step hB))); clear hB)
    refine ⟨H8.out.1.s01, ?_⟩
    try simp only [Act.put, List.setIfInBounds_toArray, List.set_cons_zero, List.set_cons_succ]
    refine wpAnyM_one (i := 10) (by kernel_rfl) (by simp only [List.getElem?_toArray, List.getElem?_cons_succ, List.getElem?_cons_zero]; rfl) ?_
    go_wp2_with (go_at_call 39; refine (pget H8.out.1 (iwI g)).mono ?_; rintro e v2 ⟨rfl, hP, hO⟩; (have H9 := Aside0.mk (And.intro hP (H8.out.2.go hO (fun p hp => .inl hp)))); clear hP hO)
    refine ⟨H9.out.1.s01, ?_⟩
    try simp only [Act.put, List.setIfInBounds_toArray, List.set_cons_zero, List.set_cons_succ]
    obtain ⟨m4, hm4⟩ : ∃ x, rgV n xs s4 (iwI g) = x := ⟨_, rfl⟩
    obtain ⟨s5, hs5⟩ : ∃ x, rgS n xs s4 (iwI g) = x := ⟨_, rfl⟩
    rw [hs5] at H9
    rw [hm4, hs5] at HRI
    rw [hm4]
    clear hm4 hs5
    refine wpAnyM_one (i := 12) (by kernel_rfl) (by simp only [List.getElem?_toArray, List.getElem?_cons_succ, List.getElem?_cons_zero]; rfl) ?_
    have hr6 : v2.heap[MB]? = some (.cells #[.slice A1 n1 c1, .slice none 0 0, .int .i64 0, .int .i64 0] 44) := H9.out.2.row
    have yM := fun j => Go.Joins.unfrozen_of_block hr6 j
    have yN : v2.cell? ⟨MB, 2, none⟩ = some (.int .i64 0) := by rw [cell_of_row _ _ _ _ _ _ hr6]; rfl
    go_wp2_with fail
    have hA := H9.out.1.boxed H9.out.2 ((OnlyB.refl MB v2).set 2 (.int .i64 m3)) (heap_setCell_same v2 MB 2 _ _ (.int .i64 m3) hr6)
    obtain ⟨v3, hW⟩ : ∃ X, v2.setCell ⟨MB, 2, none⟩ (.int .i64 m3) = X := ⟨_, rfl⟩
    rw [hW] at hA
    rw [hW]
    have H10 := Aside0.mk hA
    clear hA hW hr6 yM yN
    refine ⟨H9.out.1.s01, ?_⟩
    try simp only [Act.put, List.setIfInBounds_toArray, List.set_cons_zero, List.set_cons_succ]
    refine wpAnyM_take (i := 13) (v := ?_) (by simp only [List.getElem?_toArray, List.getElem?_cons_succ, List.getElem?_cons_zero]; rfl) (by kernel_rfl) (by kernel_rfl) (by kernel_rfl) (by kernel_rfl) (by exact fun _ _ _ h => h) (Or.inl ⟨by rfl, ?_⟩) H10.out.1.s01 ?_
    rotate_left
    · (intro w' hSw; (try dsimp only at hSw); go_simp; try with_reducible rfl)
    try simp only [Act.put, List.setIfInBounds_toArray, List.set_cons_zero, List.set_cons_succ]
    refine wpAnyM_one (i := 14) (by kernel_rfl) (by simp only [List.getElem?_toArray, List.getElem?_cons_succ, List.getElem?_cons_zero]; rfl) ?_
    have hr6 : v3.heap[MB]? = some (.cells #[.slice A1 n1 c1, .slice none 0 0, .int .i64 m3, .int .i64 0] 44) := H10.out.2.row
    have yM := fun j => Go.Joins.unfrozen_of_block hr6 j
    have yN : v3.cell? ⟨MB, 3, none⟩ = some (.int .i64 0) := by rw [cell_of_row _ _ _ _ _ _ hr6]; rfl
    go_wp2_with fail
    have hA := H10.out.1.boxed H10.out.2 ((OnlyB.refl MB v3).set 3 (.int .i64 m4)) (heap_setCell_same v3 MB 3 _ _ (.int .i64 m4) hr6)
    obtain ⟨v4, hW⟩ : ∃ X, v3.setCell ⟨MB, 3, none⟩ (.int .i64 m4) = X := ⟨_, rfl⟩
    rw [hW] at hA
    rw [hW]
    have H11 := Aside0.mk hA
    clear hA hW hr6 yM yN
    try simp only [Act.put, List.setIfInBounds_toArray, List.set_cons_zero, List.set_cons_succ]
    refine wpAnyM_done (by kernel_rfl) ?_ _
    go_upto_region 6 with fail
    have HS3 := Aside0.mk (show ∀ X : World, X.heap[rb]? = some (rdO gr g ⟨lf, (IA, In, Ic), (KA, Kn, Kc)⟩) → X.heap[MB]? = some (.cells #[.slice A1 n1 c1, .slice none 0 0, .int .i64 m3, .int .i64 m4] 44) → (fun w' => w'.cell? ⟨rb, 3, none⟩ = some (.slice IA In Ic) ∧ w'.cell? ⟨MB, 0, none⟩ = some (.slice A1 n1 c1) ∧ w'.cell? ⟨MB, 1, none⟩ = some (.slice none 0 0) ∧ w'.cell? ⟨MB, 2, none⟩ = some (.int .i64 m3) ∧ w'.cell? ⟨MB, 3, none⟩ = some (.int .i64 m4)) X from fun X q1 q2 => ⟨(rd_cells q1).2.2.1, by rw [cell_of_row _ _ _ _ _ _ q2]; rfl, by rw [cell_of_row _ _ _ _ _ _ q2]; rfl, by rw [cell_of_row _ _ _ _ _ _ q2]; rfl, by rw [cell_of_row _ _ _ _ _ _ q2]; rfl⟩)
    have hA1 := H11.out.1.step (below_drew (Below.refl _ v4))
    have hA2 := H11.out.2.step (below_drew (Below.refl _ v4))
    obtain ⟨t0, hu0⟩ : ∃ X, v4.drew = X := ⟨_, rfl⟩
    rw [hu0] at hA1 hA2
    have HT := Aside0.mk (And.intro hA1 hA2)
    clear hA1 hA2
    refine wp_region_M (fun j => decide (j < 12)) (fun w' => w'.cell? ⟨rb, 3, none⟩ = some (.slice IA In Ic) ∧ w'.cell? ⟨MB, 0, none⟩ = some (.slice A1 n1 c1) ∧ w'.cell? ⟨MB, 1, none⟩ = some (.slice none 0 0) ∧ w'.cell? ⟨MB, 2, none⟩ = some (.int .i64 m3) ∧ w'.cell? ⟨MB, 3, none⟩ = some (.int .i64 m4)) (by kernel_rfl) ?_
    rw [hu0]
    clear hu0
    refine wpAnyM_take (i := 0) (v := ?_) (by simp only [List.getElem?_toArray, List.getElem?_cons_succ, List.getElem?_cons_zero]; rfl) (by kernel_rfl) (by kernel_rfl) (by kernel_rfl) (by kernel_rfl) (by exact fun _ _ _ h => h) (Or.inl ⟨by rfl, ?_⟩) (HS3.out _ HT.out.1.row HT.out.2.row) ?_
    rotate_left
    · (intro w' hSw; (try dsimp only at hSw); go_simp; try with_reducible rfl)
    try simp only [Act.put, List.setIfInBounds_toArray, List.set_cons_zero, List.set_cons_succ]
    refine wpAnyM_take (i := 1) (v := ?_) (by simp only [List.getElem?_toArray, List.getElem?_cons_succ, List.getElem?_cons_zero]; rfl) (by kernel_rfl) (by kernel_rfl) (by kernel_rfl) (by kernel_rfl) (by exact fun _ _ _ h => h) (Or.inl ⟨by rfl, ?_⟩) (HS3.out _ HT.out.1.row HT.out.2.row) ?_
    rotate_left
    · (intro w' hSw; (try dsimp only at hSw); go_simp; try with_reducible rfl)
    try simp only [Act.put, List.setIfInBounds_toArray, List.set_cons_zero, List.set_cons_succ]
    refine wpAnyM_take (i := 2) (v := ?_) (by simp only [List.getElem?_toArray, List.getElem?_cons_succ, List.getElem?_cons_zero]; rfl) (by kernel_rfl) (by kernel_rfl) (by kernel_rfl) (by kernel_rfl) (by exact fun _ _ _ h => h) (Or.inl ⟨by rfl, ?_⟩) (HS3.out _ HT.out.1.row HT.out.2.row) ?_
    rotate_left
    · (intro w' hSw; (try dsimp only at hSw); go_simp; try with_reducible rfl)
    try simp only [Act.put, List.setIfInBounds_toArray, List.set_cons_zero, List.set_cons_succ]
    refine wpAnyM_take (i := 3) (v := ?_) (by simp only [List.getElem?_toArray, List.getElem?_cons_succ, List.getElem?_cons_zero]; rfl) (by kernel_rfl) (by kernel_rfl) (by kernel_rfl) (by kernel_rfl) (by exact fun _ _ _ h => h) (Or.inl ⟨by rfl, ?_⟩) (HS3.out _ HT.out.1.row HT.out.2.row) ?_
    rotate_left
    · (intro w' hSw; (try dsimp only at hSw); go_simp; try with_reducible rfl)
    try simp only [Act.put, List.setIfInBounds_toArray, List.set_cons_zero, List.set_cons_succ]
    refine wpAnyM_take (i := 4) (v := ?_) (by simp only [List.getElem?_toArray, List.getElem?_cons_succ, List.getElem?_cons_zero]; rfl) (by kernel_rfl) (by kernel_rfl) (by kernel_rfl) (by kernel_rfl) (by exact fun _ _ _ h => h) (Or.inl ⟨by rfl, ?_⟩) (HS3.out _ HT.out.1.row HT.out.2.row) ?_
    rotate_left
    · (intro w' hSw; (try dsimp only at hSw); go_simp; try with_reducible rfl)
    try simp only [Act.put, List.setIfInBounds_toArray, List.set_cons_zero, List.set_cons_succ]
    refine wpAnyM_take (i := 5) (v := ?_) (by simp only [List.getElem?_toArray, List.getElem?_cons_succ, List.getElem?_cons_zero]; rfl) (by kernel_rfl) (by kernel_rfl) (by kernel_rfl) (by kernel_rfl) (by exact fun _ _ _ h => h) (Or.inl ⟨by rfl, ?_⟩) (HS3.out _ HT.out.1.row HT.out.2.row) ?_
    rotate_left
    · (intro w' hSw; (try dsimp only at hSw); go_simp; try with_reducible rfl)
    try simp only [Act.put, List.setIfInBounds_toArray, List.set_cons_zero, List.set_cons_succ]
    refine wpAnyM_take (i := 6) (v := ?_) (by simp only [List.getElem?_toArray, List.getElem?_cons_succ, List.getElem?_cons_zero]; rfl) (by kernel_rfl) (by kernel_rfl) (by kernel_rfl) (by kernel_rfl) (by exact fun _ _ _ h => h) (Or.inl ⟨by rfl, ?_⟩) (HS3.out _ HT.out.1.row HT.out.2.row) ?_
    rotate_left
    · (intro w' hSw; (try dsimp only at hSw); go_simp; try with_reducible rfl)
    try simp only [Act.put, List.setIfInBounds_toArray, List.set_cons_zero, List.set_cons_succ]
    refine wpAnyM_one (i := 7) (by kernel_rfl) (by simp only [List.getElem?_toArray, List.getElem?_cons_succ, List.getElem?_cons_zero]; rfl) ?_
    go_wp2_with fail
    have hA1 := HT.out.1.step ((Below.refl _ t0).alloc (Nat.le_refl _) (.cells #[.slice A1 n1 c1, .slice none 0 0, .int .i64 m3, .int .i64 m4] 44))
    have hA2 := HT.out.2.step ((Below.refl _ t0).alloc (Nat.le_refl _) (.cells #[.slice A1 n1 c1, .slice none 0 0, .int .i64 m3, .int .i64 m4] 44))
    have hl : (t0.alloc (.cells #[.slice A1 n1 c1, .slice none 0 0, .int .i64 m3, .int .i64 m4] 44)).rangeAt t0.heap.size 0 (ih4 ⟨(A1, n1, c1), (none, 0, 0), m3, m4⟩) := lit_range t0 #[.slice A1 n1 c1, .slice none 0 0, .int .i64 m3, .int .i64 m4] 44 [.slice A1 n1 c1, .slice none 0 0, .int .i64 m3, .int .i64 m4] rfl
    obtain ⟨NL, hNL⟩ : ∃ X, t0.heap.size = X := ⟨_, rfl⟩
    obtain ⟨t1, ht1⟩ : ∃ X, t0.alloc (.cells #[.slice A1 n1 c1, .slice none 0 0, .int .i64 m3, .int .i64 m4] 44) = X := ⟨_, rfl⟩
    rw [ht1] at hA1 hA2 hl
    rw [ht1]
    rw [hNL] at hl
    rw [hNL]
    have HU := Aside0.mk (And.intro hA1 (And.intro hA2 hl))
    clear hA1 hA2 hl hNL ht1
    refine ⟨HS3.out _ HU.out.1.row HU.out.2.1.row, ?_⟩
    try simp only [Act.put, List.setIfInBounds_toArray, List.set_cons_zero, List.set_cons_succ]
    refine wpAnyM_one (i := 8) (by kernel_rfl) (by simp only [List.getElem?_toArray, List.getElem?_cons_succ, List.getElem?_cons_zero]; rfl) ?_
    refine wpl_oc w0.heap.size (by rfl) (.tmp 55) (.tmp 57) 25 44 (.agg #[.slice none 0 0, .slice none 0 0, .int .i64 0, .int .i64 0]) 4 64 (by rfl) Tryz.underlying25 infoIt rfl (by omega) (by omega) (by omega) IA In Ic NL (ihv is) (ih4 ⟨(A1, n1, c1), (none, 0, 0), m3, m4⟩) (by rfl) (by rfl) HU.out.1.oi rfl HU.out.2.2 (fun u hu => (ihv_one [⟨(A1, n1, c1), (none, 0, 0), m3, m4⟩]) u (by simpa [ihv] using hu)) HU.out.1.bel.size (by omega) ?_
    intro A2 c2 t2 hO hG hA
    have hbR := (hG.out.block _ (Array.getElem?_eq_some_iff.1 HU.out.1.row).1 (fun e => (HU.out.1.pf.ni _ e).2 rfl)).trans HU.out.1.row
    have hbM := (hG.out.block _ (Array.getElem?_eq_some_iff.1 HU.out.2.1.row).1 (fun e => HU.out.2.1.ne.2.2.1 e)).trans HU.out.2.1.row
    have HV := Aside0.mk (HS3.out _ hbR hbM)
    refine wpl_nil (And.intro rfl (And.intro (fun _ => HV.out) ?_))
    try simp only [Act.put, List.setIfInBounds_toArray, List.set_cons_zero, List.set_cons_succ]
    refine wpAnyM_take (i := 9) (v := ?_) (by simp only [List.getElem?_toArray, List.getElem?_cons_succ, List.getElem?_cons_zero]; rfl) (by kernel_rfl) (by kernel_rfl) (by kernel_rfl) (by kernel_rfl) (by exact fun _ _ _ h => h) (Or.inl ⟨by rfl, ?_⟩) HV.out ?_
    rotate_left
    · (intro w' hSw; (try dsimp only at hSw); go_simp; try with_reducible rfl)
    try simp only [Act.put, List.setIfInBounds_toArray, List.set_cons_zero, List.set_cons_succ]
    refine wpAnyM_take (i := 10) (v := ?_) (by simp only [List.getElem?_toArray, List.getElem?_cons_succ, List.getElem?_cons_zero]; rfl) (by kernel_rfl) (by kernel_rfl) (by kernel_rfl) (by kernel_rfl) (by exact fun _ _ _ h => h) (Or.inl ⟨by rfl, ?_⟩) HV.out ?_
    rotate_left
    · (intro w' hSw; (try dsimp only at hSw); go_simp; try with_reducible rfl)
    try simp only [Act.put, List.setIfInBounds_toArray, List.set_cons_zero, List.set_cons_succ]
    refine wpAnyM_take (i := 11) (v := ?_) (by simp only [List.getElem?_toArray, List.getElem?_cons_succ, List.getElem?_cons_zero]; rfl) (by kernel_rfl) (by kernel_rfl) (by kernel_rfl) (by kernel_rfl) (by exact fun _ _ _ h => h) (Or.inl ⟨by rfl, ?_⟩) HV.out ?_
    rotate_left
    · (intro w' hSw; (try dsimp only at hSw); go_simp; try with_reducible rfl)
    try simp only [Act.put, List.setIfInBounds_toArray, List.set_cons_zero, List.set_cons_succ]
    refine wpAnyM_one (i := 12) (by kernel_rfl) (by simp only [List.getElem?_toArray, List.getElem?_cons_succ, List.getElem?_cons_zero]; rfl) ?_
    have yM := fun j => Go.Joins.unfrozen_of_block hbR j
    have yN := HV.out.1
    go_wp2_with fail
    clear yM yN
    try simp only [Act.put, List.setIfInBounds_toArray, List.set_cons_zero, List.set_cons_succ]
    refine wpAnyM_done (by kernel_rfl) ?_ _
    go_end0
    have hF := HU.out.1.addItem (p := ⟨(A1, n1, c1), (none, 0, 0), m3, m4⟩) hO.out hG.out hA.out (q := ⟨rbV n xs s3 m1, [], m3, m4⟩) (HU.out.1.bsh H5.out.1 H5.out.2.2 H5.out.2.1 (fun p hp => hp)) (show Bs _ none 0 0 [] from ⟨rfl, by omega, by omega, by omega, fun h => absurd h (by omega)⟩) H5.out.2.2 (fun h => absurd h (Nat.lt_irrefl 0)) rfl rfl
    rw [HRI.out]
    exact ⟨R1, A2, c2, _, rfl, hF⟩
end Go.Proofs.YtbjfklgmbeaaoaaGreat
