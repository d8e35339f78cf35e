/- The walk of ref12's Right. -/
import Derived.Test.YthhalmjapiempaaNA
import Derived.Test.YthhalmjapiempaaZ7
set_option linter.unusedVariables false
set_option linter.unusedSimpArgs false
namespace Go.Proofs.Ythhalmjapiempaa
open Go.RowKit

/-- The cells of pages that are written. -/
def bm (S : List Int) (pg : Nat) : Array Value := ((List.range pg).map fun x : Nat => Value.bool (S.contains (x : Int))).toArray
theorem bm_size (S : List Int) (pg : Nat) : (bm S pg).size = pg := by simp [bm]
theorem bm_at (S : List Int) (pg x : Nat) (h : x < pg) : (bm S pg)[x]? = some (.bool (S.contains (x : Int))) := by
  simp [bm, h]
theorem bm_set (S : List Int) (pg x : Nat) (h : x < pg) : (bm S pg).setIfInBounds x (.bool true) = bm (S ++ [(x : Int)]) pg := by
  apply Array.ext_getElem?
  intro i
  rw [Array.getElem?_setIfInBounds, bm_size]
  by_cases e : x = i
  · subst e
    rw [if_pos rfl, if_pos h, bm_at _ _ _ h]
    simp
  · rw [if_neg e]
    rcases Nat.lt_or_ge i pg with q | q
    · rw [bm_at _ _ _ q, bm_at _ _ _ q]
      have : ¬ ((i : Int) = (x : Int)) := by omega
      simp [List.contains_eq_mem, List.mem_append, this]
    · rw [Array.getElem?_eq_none (by rw [bm_size]; exact q), Array.getElem?_eq_none (by rw [bm_size]; exact q)]
theorem infoBo : (Try.prog.info? 4).map (fun i => (i.zero, i.size, i.bytes)) = some (some (.bool false), 1, 1) := by kernel_rfl
theorem mkb (m : Nat) (hm : m ≤ 140737488355328) : ∀ W : World, (Instr.makeSlice 52 (.int .i64 (m : Int)) (.int .i64 (m : Int))).run Try.prog W = .ok (.slice (some ⟨W.heap.size, 0, none⟩) m m) (W.alloc (.cells (madeCells #[.bool false] m) 4)) := by
  intro W
  exact run_make_row' 52 4 (.bool false) 1 Try.underlying52 infoBo rfl .i64 .i64 m (by omega) (by omega) W
theorem bm_made (m : Nat) : madeCells #[Value.bool false] m = bm [] m := by
  apply Array.ext_getElem?
  intro i
  rcases Nat.lt_or_ge i m with q | q
  · rw [bm_at _ _ _ q]
    simp [madeCells, q, Nat.mod_one]
  · rw [Array.getElem?_eq_none (by rw [size_madeCells]; simpa using q), Array.getElem?_eq_none (by rw [bm_size]; exact q)]
/-- What stands in memory while ref12's Right runs. -/
structure RR (W : World) (N0 N1 : Nat) (bx : Obj) (S : List Int) (pg : Nat) (w : World) : Prop where
  bel : Below W.heap.size W w
  box : w.heap[N0]? = some bx
  row : w.heap[N1]? = some (.cells (bm S pg) 4)
  lo : W.heap.size ≤ N1
  ne : N0 ≠ N1
theorem RR.cell {W : World} {N0 N1 : Nat} {bx : Obj} {S : List Int} {pg : Nat} {w : World} (h : RR W N0 N1 bx S pg w) (x : Nat) (hx : x < pg) : w.cell? ⟨N1, x, none⟩ = some (.bool (S.contains (x : Int))) := by
  rw [cell_of_row _ _ _ _ _ _ h.row]
  exact bm_at _ _ _ hx
theorem RR.set {W : World} {N0 N1 : Nat} {bx : Obj} {S : List Int} {pg : Nat} {w : World} (h : RR W N0 N1 bx S pg w) (x : Nat) (hx : x < pg) : RR W N0 N1 bx (S ++ [(x : Int)]) pg (w.setCell ⟨N1, x, none⟩ (.bool true)) := by
  refine ⟨below_set _ h.bel h.lo, ?_, ?_, h.lo, h.ne⟩
  · rw [(((OnlyB.refl N1 w).set x (.bool true)).block _ (Array.getElem?_eq_some_iff.1 h.box).1 h.ne)]
    exact h.box
  · rw [heap_setCell_same w N1 x _ _ _ h.row, bm_set _ _ _ hx]
theorem RR.drew {W : World} {N0 N1 : Nat} {bx : Obj} {S : List Int} {pg : Nat} {w : World} (h : RR W N0 N1 bx S pg w) : RR W N0 N1 bx S pg w.drew := ⟨below_drew h.bel, h.box, h.row, h.lo, h.ne⟩
theorem RR.drewN {W : World} {N0 N1 : Nat} {bx : Obj} {S : List Int} {pg : Nat} {w : World} (h : RR W N0 N1 bx S pg w) (k : Nat) : RR W N0 N1 bx S pg (w.drewN k) := ⟨below_drawn h.bel _, h.box, h.row, h.lo, h.ne⟩
set_option maxHeartbeats 16000000 in
set_option maxRecDepth 100000 in
theorem rpright_any (A : Option Addr) (n c : Nat) (hs : List (Int × Option Addr × Nat × Nat)) (l : List (Int × List UInt8)) (m : MV) (A' : Option Addr) (c' : Nat) (W : World) (hr : Rc W 2 A n c (wv hs)) (hl : hs.length = n) (hh : Hl hs l) (hm : m.cu.length ≤ 140737488355328) :
    Calls Try.prog 10 #[.slice A n c, .agg (m.agg A' c')] W fun e w' => e = .returned (.bool (prgB l m)) ∧ Below W.heap.size W w' := by
  obtain ⟨ge, ph, tg, tx, rt, pg, li, cu⟩ := m
  obtain ⟨rb, hrb⟩ : ∃ b, prgB l ⟨ge, ph, tg, tx, rt, pg, li, cu⟩ = b := ⟨_, rfl⟩
  rw [hrb]
  replace hrb := Aside0.mk hrb
  obtain ⟨bx, hbx⟩ : ∃ b : Obj, Obj.cells #[.int .i64 ge, .int .i64 ph, .int .i64 tg, .int .i64 tx, .int .i64 rt, .int .i64 pg, .int .i64 li, .slice A' cu.length c'] 24 = b := ⟨_, rfl⟩
  have hbel0 : Below W.heap.size W (W.alloc bx) := (Below.refl _ W).alloc (Nat.le_refl _) bx
  have hro0 := heap_alloc_new W bx
  have hlim := hr.lim
  have HR := Aside0.mk hr
  have HL := Aside0.mk hl
  have HH := Aside0.mk hh
  have HN := Aside0.mk (show n = l.length by rw [← hl]; exact hh.len)
  clear hr hl hh
  show Calls Try.prog 10 #[.slice A n c, .agg #[.int .i64 ge, .int .i64 ph, .int .i64 tg, .int .i64 tx, .int .i64 rt, .int .i64 pg, .int .i64 li, .slice A' cu.length c']] W _
  go_enter Try.func10, Try.ntmps10
  go_upto_region 1 with fail
  obtain ⟨W0, hW0⟩ : ∃ X, W.alloc bx = X := ⟨_, rfl⟩
  obtain ⟨N0, hN0⟩ : ∃ X, W.heap.size = X := ⟨_, rfl⟩
  rw [hW0, hN0] at hro0
  rw [hW0] at hbel0
  rw [hW0, hN0]
  have HB := Aside0.mk (And.intro hbel0 hro0)
  have HBX := Aside0.mk hbx
  have HN0 := Aside0.mk hN0
  rw [← hbx] at hro0
  obtain ⟨y0, y1, y2, y3, y4, y5, y6, y7⟩ := row8_cells hro0
  clear hW0 hN0 hbx hbel0 hro0
  cases hM : mrightB ge ph tg tx rt pg li cu.length with
  | false =>
    have HC := Aside0.mk (show rb = false by rw [← hrb.out]; unfold prgB; rw [hM, Bool.and_false])
    have HM := Aside0.mk hM
    clear hM
    go_wp2_with (go_at_call 39; refine (rmright_any ge ph tg tx rt pg li A' cu.length c' W0 hm).mono ?_; rintro e w1 ⟨rfl, hB⟩; rw [HM.out]; (have H1 := Aside0.mk (below_then HB.out.1 HB.out.1.size hB)); clear hB)
    go_ret
    rw [HC.out]
    exact ⟨rfl, H1.out⟩
  | true =>
    have BD := Aside0.mk (right_bounds hM)
    obtain ⟨pn, hpn⟩ : ∃ k : Nat, pg = (k : Int) := ⟨pg.toNat, by have := BD.out; omega⟩
    have HM := Aside0.mk hM
    clear hM
    subst hpn
    have hmk := mkb pn (by have := BD.out; omega)
    go_upto_region 3 with (go_at_call 39; refine (rmright_any ge ph tg tx rt (pn : Int) li A' cu.length c' W0 hm).mono ?_; rintro e w1 ⟨rfl, hB⟩; rw [HM.out]; (have H1 := Aside0.mk (And.intro (below_then HB.out.1 HB.out.1.size hB) ((hB.block _ (Array.getElem?_eq_some_iff.1 HB.out.2).1).trans HB.out.2))); (have hro0 := H1.out.2); rw [← HBX.out] at hro0; clear y0 y1 y2 y3 y4 y5 y6 y7; (obtain ⟨y0, y1, y2, y3, y4, y5, y6, y7⟩ := row8_cells hro0); clear hB hro0)
    go_upto_region 4 with fail
    obtain ⟨N1, hN1⟩ : ∃ N, w1.heap.size = N := ⟨_, rfl⟩
    have hlt0 : N0 < w1.heap.size := (Array.getElem?_eq_some_iff.1 H1.out.2).1
    have hbm : Below w1.heap.size w1 (w1.alloc (.cells (bm [] pn) 4)) := (Below.refl _ w1).alloc (Nat.le_refl _) _
    have hR0 : RR W N0 w1.heap.size bx [] pn (w1.alloc (.cells (bm [] pn) 4)) :=
      ⟨below_then H1.out.1 H1.out.1.size hbm, (hbm.block _ hlt0).trans H1.out.2, heap_alloc_new w1 _, H1.out.1.size, by omega⟩
    rw [hN1] at hR0
    rw [hN1, bm_made]
    obtain ⟨W1, hW1⟩ : ∃ X, w1.alloc (.cells (bm [] pn) 4) = X := ⟨_, rfl⟩
    rw [hW1] at hR0 ⊢
    have HR0 := Aside0.mk hR0
    clear hlt0 hbm hR0 hW1 hN1 hmk y0 y1 y2 y3 y4 y5 y6 y7
    have HP := Aside0.mk (show prW (pn : Int) [] l = rb by rw [← hrb.out]; unfold prgB; rw [HM.out, Bool.and_true])
    clear hrb
    have hpb : pn ≤ 16384 := by have := BD.out; omega
    go_wp2_with fail
    go_loopg [6] n (fun gk v6 wr => ∃ (j : Nat) (seen : List Int), Aside (gk + j = n) ∧ v6 = .int .i64 (j : Int) ∧ Aside0 (RR W N0 N1 bx seen pn wr ∧ prW (pn : Int) seen (l.drop j) = rb))
    case atStart => exact ⟨0, [], rfl, rfl, ⟨HR0.out, HP.out⟩⟩
    clear HR0
    case round =>
      obtain ⟨j, seen, hk, rfl, hI⟩ := hrel
      have hjm : j ≤ n := by have := hk.out; omega
      have hr0 := hI.out.1.box
      rw [← HBX.out] at hr0
      obtain ⟨y0, y1, y2, y3, y4, y5, y6, y7⟩ := row8_cells hr0
      clear hr0
      rcases Nat.lt_or_ge j n with hlt | hge
      · have d1 : decide ((j : Int) < (n : Int)) = true := decide_eq_true (by omega)
        have hjn : (j : Int) < (n : Int) := by omega
        obtain ⟨ad, p, rfl, hp, z0, z1⟩ := (HR.out.below hI.out.1.bel).two HL.out j hlt
        obtain ⟨q, hq, hpq, hpl, hpm, hpbd⟩ := HH.out.each j p hp
        have hdr : l.drop j = q :: l.drop (j + 1) := by
          have hj2 : j < l.length := (List.getElem?_eq_some_iff.1 hq).1
          rw [List.drop_eq_getElem_cons hj2]
          congr 1
          rw [List.getElem?_eq_getElem hj2] at hq
          exact Option.some.inj hq
        obtain ⟨m, hm2⟩ : ∃ x, p.2.2.1 = x := ⟨_, rfl⟩
        obtain ⟨id, hid⟩ : ∃ x, p.1 = x := ⟨_, rfl⟩
        obtain ⟨k, hkm⟩ : ∃ x, m / 256 = x := ⟨_, rfl⟩
        obtain ⟨BB, hBB⟩ : ∃ x, p.2.1 = x := ⟨_, rfl⟩
        obtain ⟨bc, hbc⟩ : ∃ x, p.2.2.2 = x := ⟨_, rfl⟩
        rw [hid] at z0 hpbd hpq
        rw [hm2] at z1 hpl hpm
        rw [hBB, hbc] at z1
        have hv : (m : Int) / 256 = (k : Int) := by omega
        have hfm : formB (pn : Int) q = decide (1 ≤ k ∧ m % 256 = 0 ∧ 2 ≤ id ∧ id ≤ (pn : Int) ∧ (k : Int) ≤ (pn : Int) - id) := by unfold formB; rw [← hpl, ← hpq, hkm]
        have HW := Aside0.mk (show rb = (formB (pn : Int) q && (pgs id k).all (fun x => !seen.contains x) && prW (pn : Int) (seen ++ pgs id k) (l.drop (j + 1))) by rw [← hI.out.2, hdr, prW, ← hpl, ← hpq, hkm])
        have hRF : ¬ (1 ≤ k ∧ m % 256 = 0 ∧ 2 ≤ id ∧ id ≤ (pn : Int) ∧ (k : Int) ≤ (pn : Int) - id) → rb = false := fun z => by
          rw [HW.out, hfm, decide_eq_false z]
          rfl
        have HRF := Aside0.mk hRF
        replace hfm := Aside0.mk hfm
        have HIR := Aside0.mk hI.out.1
        have HZ := Aside0.mk (show ∀ wx : World, RR W N0 N1 bx seen pn wx → True from fun _ _ => trivial)
        have HAD := Aside0.mk (show ∀ (S : List Int) (wx : World), RR W N0 N1 bx S pn wx → wx.cell? (ad.add (j * 2)) = some (.int .i64 id) ∧ wx.cell? ⟨(ad.add (j * 2)).block, (ad.add (j * 2)).off + 1, none⟩ = some (.slice BB m bc) by
          intro S wx hx
          obtain ⟨ad2, p2, e2, hp2, x0, x1⟩ := (HR.out.below hx.bel).two HL.out j hlt
          injection e2 with e2
          subst e2
          rw [hp] at hp2
          injection hp2 with hp2
          subst hp2
          rw [hid] at x0
          rw [hm2, hBB, hbc] at x1
          exact ⟨x0, x1⟩)
        clear hp hq hdr hI hm2 hid hBB hbc hRF hpq hpl
        by_cases t0 : m = 0
        · have f0 : (((m : Nat) : Int) == 0) = true := beq_iff_eq.2 (by omega)
          have RF := Aside0.mk (HRF.out (by omega))
          clear hkm t0
          go_wp2_with fail
          go_ret
          rw [RF.out]
          exact ⟨rfl, HIR.out.bel⟩
        have f0 : (((m : Nat) : Int) == 0) = false := beq_eq_false_iff_ne.2 (by omega)
        obtain ⟨rm, hrm⟩ : ∃ x : Int, (m : Int) % 256 = x := ⟨_, rfl⟩
        by_cases t2 : rm = 0
        rotate_left
        · obtain ⟨f2a, f2b, f2c, f2d⟩ := eq_no t2
          have RF := Aside0.mk (HRF.out (by omega))
          clear hkm t2 t0
          go_wp2_with fail
          go_ret
          rw [RF.out]
          exact ⟨rfl, HIR.out.bel⟩
        obtain ⟨f2a, f2b, f2c, f2d⟩ := eq_yes t2
        by_cases t3 : id < 2
        · have f3 : decide (id < 2) = true := decide_eq_true t3
          have RF := Aside0.mk (HRF.out (by omega))
          clear hkm t2 t3 t0
          go_wp2_with fail
          go_ret
          rw [RF.out]
          exact ⟨rfl, HIR.out.bel⟩
        have f3 : decide (id < 2) = false := decide_eq_false t3
        have HK := Aside0.mk (show 1 ≤ k ∧ m % 256 = 0 ∧ 2 ≤ id by omega)
        obtain ⟨idn, hidn⟩ : ∃ x : Nat, id = (x : Int) := ⟨id.toNat, by omega⟩
        have hi2 : 2 ≤ idn := by omega
        clear hkm t0 t2 t3
        subst hidn
        go_wp2_with fail
        have H10 := Aside0.mk (show RR W N0 N1 bx (seen ++ pgs (idn : Int) 0) pn wr by rw [show seen ++ pgs (idn : Int) 0 = seen from List.append_nil _]; exact HIR.out)
        clear f0 f2a f2b f2c f2d f3 hrm y0 y1 y2 y3 y4 y5 y6 y7 z0 z1
        go_loopg [7] k (fun gk2 v7 wr => ∃ i : Nat, Aside (gk2 + i = k) ∧ v7 = .int .i64 (i : Int) ∧ Aside0 (RR W N0 N1 bx (seen ++ pgs (idn : Int) i) pn wr ∧ (i = 0 ∨ (idn : Int) + (i : Int) ≤ (pn : Int)) ∧ ∀ x ∈ pgs (idn : Int) i, seen.contains x = false))
        case atStart => exact ⟨0, rfl, rfl, ⟨H10.out, .inl rfl, fun x hx => by cases hx⟩⟩
        clear H10
        case round =>
          obtain ⟨i, hk2, rfl, hJ⟩ := hrel
          have hik : i ≤ k := by have := hk2.out; omega
          have hr0 := hJ.out.1.box
          rw [← HBX.out] at hr0
          obtain ⟨y0, y1, y2, y3, y4, y5, y6, y7⟩ := row8_cells hr0
          clear hr0
          obtain ⟨z0, z1⟩ := HAD.out _ _ hJ.out.1
          rcases Nat.lt_or_ge i k with hlt2 | hge2
          · have e1 : decide ((i : Int) < (k : Int)) = true := decide_eq_true (by omega)
            have e1' : decide (i < k) = true := decide_eq_true hlt2
            obtain ⟨x, hxe⟩ : ∃ x : Nat, idn + i = x := ⟨_, rfl⟩
            have HRF2 := Aside0.mk (show ((pn : Int) ≤ (idn : Int) ∨ (pn : Int) ≤ (x : Int) ∨ seen.contains (x : Int) = true) → rb = false by
              intro z
              rcases z with z | z | z
              · exact HRF.out (by omega)
              · exact HRF.out (by omega)
              · rw [HW.out]
                have : (pgs (idn : Int) k).all (fun x => !seen.contains x) = false := by
                  rw [List.all_eq_false]
                  exact ⟨(x : Int), (pgs_mem _ _ k).2 (by omega), by rw [z]; decide⟩
                rw [this, Bool.and_false, Bool.false_and])
            by_cases q1 : (pn : Int) ≤ (idn : Int)
            · have g1 : decide ((pn : Int) ≤ (idn : Int)) = true := decide_eq_true q1
              have g1' : decide (pn ≤ idn) = true := decide_eq_true (by omega)
              have RF := Aside0.mk (HRF2.out (.inl q1))
              clear q1
              go_upto_region 12 with fail
              go_quiet (fail)
              go_wp2_with fail
              go_ret
              rw [RF.out]
              exact ⟨rfl, below_drawn hJ.out.1.bel _⟩
            have g1 : decide ((pn : Int) ≤ (idn : Int)) = false := decide_eq_false q1
            have g1' : decide (pn ≤ idn) = false := decide_eq_false (by omega)
            have iw : IntKind.i64.wrap ((idn : Int) + (i : Int)) = (x : Int) := by
              have := HRF2.out
              rw [IntWalk.i64_in _ (by omega)]
              omega
            by_cases q2 : pn ≤ x
            · have g2 : decide ((pn : Int) ≤ (x : Int)) = true := decide_eq_true (by omega)
              have g2' : decide (pn ≤ x) = true := decide_eq_true q2
              have RF := Aside0.mk (HRF2.out (.inr (.inl (by omega))))
              clear q1 q2 hxe
              go_upto_region 12 with fail
              go_quiet (fail)
              go_wp2_with fail
              go_ret
              rw [RF.out]
              exact ⟨rfl, below_drawn hJ.out.1.bel _⟩
            have g2 : decide ((pn : Int) ≤ (x : Int)) = false := decide_eq_false (by omega)
            have g2' : decide (pn ≤ x) = false := decide_eq_false q2
            have hxp : x < pn := by omega
            have hnot : (pgs (idn : Int) i).contains (x : Int) = false := by
              cases hc : (pgs (idn : Int) i).contains (x : Int) with
              | false => rfl
              | true =>
                have := (pgs_mem (idn : Int) _ i).1 (by simpa using hc)
                omega
            have hcell := hJ.out.1.cell x hxp
            rw [List.contains_append, hnot, Bool.or_false] at hcell
            cases hs : seen.contains (x : Int) with
            | true =>
              rw [hs] at hcell
              have RF := Aside0.mk (HRF2.out (.inr (.inr hs)))
              clear hnot hs q1 q2 hxe
              go_upto_region 12 with fail
              go_quiet (fail)
              go_wp2_with fail
              go_ret
              rw [RF.out]
              exact ⟨rfl, below_drawn hJ.out.1.bel _⟩
            | false =>
              rw [hs] at hcell
              have HSN := Aside0.mk hs
              have HRS := Aside0.mk (show ∀ nq : Nat, RR W N0 N1 bx (seen ++ pgs (idn : Int) i ++ [(x : Int)]) pn ((wr.drewN nq).setCell ⟨N1, x, none⟩ (.bool true)) from fun nq => (hJ.out.1.drewN nq).set x hxp)
              have HXE := Aside0.mk (And.intro hxe hxp)
              have yf := Go.Joins.unfrozen_of_block hJ.out.1.row x
              clear hnot hs q1 q2 hxe
              go_upto_region 12 with fail
              go_quiet (fail)
              go_wp2_with fail
              go_roundg (k - (i + 1))
              case measure => have := hk2.out; omega
              case rel =>
                have hxi : (x : Int) = (idn : Int) + (i : Int) := by have := HXE.out.1; omega
                refine ⟨i + 1, by have := hk2.out; exact (show k - (i + 1) + (i + 1) = k by omega), by go_num, ⟨?_, .inr (by have := HXE.out; omega), ?_⟩⟩
                · have := HRS.out nq
                  rw [show seen ++ pgs (idn : Int) (i + 1) = seen ++ pgs (idn : Int) i ++ [(x : Int)] by rw [pgs, List.append_assoc, hxi]]
                  exact this
                · intro y hy
                  rcases List.mem_append.1 hy with hy | hy
                  · exact hJ.out.2.2 y hy
                  · obtain rfl := List.mem_singleton.1 hy
                    rw [← hxi]
                    exact HSN.out
          · obtain rfl : k = i := by omega
            have e1 : decide ((k : Int) < (k : Int)) = false := by simp
            have HN2 := Aside0.mk (show prW (pn : Int) (seen ++ pgs (idn : Int) k) (l.drop (j + 1)) = rb by
              rw [HW.out]
              have h1 : formB (pn : Int) q = true := by
                rw [hfm.out]
                have := HK.out
                have := hJ.out.2.1
                exact decide_eq_true (by omega)
              have h2 : (pgs (idn : Int) k).all (fun x => !seen.contains x) = true := by
                rw [List.all_eq_true]
                intro x hx
                rw [hJ.out.2.2 x hx]
                rfl
              rw [h1, h2]
              rfl)
            go_wp2_with fail
            go_roundg (n - (j + 1))
            case measure => have := hk.out; omega
            case rel => exact ⟨j + 1, seen ++ pgs (idn : Int) k, by have := hk.out; exact (show n - (j + 1) + (j + 1) = n by omega), by go_num, ⟨hJ.out.1, HN2.out⟩⟩
      · obtain rfl : n = j := by omega
        have d1 : decide ((n : Int) < (n : Int)) = false := by simp
        have HF := Aside0.mk (show rb = true by
          rw [← hI.out.2, List.drop_eq_nil_of_le (by rw [← HN.out]; exact Nat.le_refl _)]
          rfl)
        go_wp2_with fail
        go_ret
        rw [HF.out]
        exact ⟨rfl, hI.out.1.bel⟩
end Go.Proofs.Ythhalmjapiempaa
