/- The walk of the law DiskSynced. -/
import Derived.Test.YtcegphnhohpegaaD19
import Derived.Test.YtcegphnhohpegaaB0
set_option linter.unusedVariables false
set_option linter.unusedSimpArgs false
namespace Go.Proofs.Ytcegphnhohpegaa
open Go.RowKit

theorem mkB (m : Nat) (hm : m ≤ 140737488355328) : ∀ W : World, (Instr.makeSlice 24 (.int .i64 (m : Int)) (.int .i64 (m : Int))).run Try.prog W = .ok (.slice (some ⟨W.heap.size, 0, none⟩) m m) (W.alloc (.cells (madeCells #[.bool false] m) 4)) := by
  intro W
  exact run_make_row' 24 4 (.bool false) 1 Try.underlying24 (by kernel_rfl) rfl .i64 .i64 m (by omega) (by omega) W
/-- A row of truths. -/
def wo (ks : List Bool) : Obj := .cells (ks.map Value.bool).toArray 4
theorem wo_made (m : Nat) : (Obj.cells (madeCells #[.bool false] m) 4) = wo (List.replicate m false) := by
  unfold wo
  congr 1
  apply Array.ext
  · simp [madeCells]
  · intro i h1 h2
    simp [madeCells, Nat.mod_one]
/-- Truths, of which some are set. -/
def wset (ks : List Bool) (a : Nat) : Nat → List Bool
  | 0 => ks
  | i + 1 => (wset ks a i).set (a + i) true
theorem wset_len (ks : List Bool) (a : Nat) : ∀ i, (wset ks a i).length = ks.length
  | 0 => rfl
  | i + 1 => by rw [wset, List.length_set, wset_len ks a i]
theorem wset_keep (ks : List Bool) (a p : Nat) (h : ks.getD p false = true) : ∀ i, (wset ks a i).getD p false = true
  | 0 => h
  | i + 1 => by
    have ih := wset_keep ks a p h i
    rw [wset, List.getD_eq_getElem?_getD]
    by_cases e : a + i = p
    · subst e
      have hl : a + i < (wset ks a i).length := by
        rcases Nat.lt_or_ge (a + i) (wset ks a i).length with q | q
        · exact q
        · rw [List.getD_eq_getElem?_getD, List.getElem?_eq_none q] at ih
          cases ih
      rw [List.getElem?_set_self hl]
      rfl
    · rw [List.getElem?_set_ne e, ← List.getD_eq_getElem?_getD]
      exact ih
theorem wset_new (ks : List Bool) (a : Nat) : ∀ i, a + i ≤ ks.length → ∀ p, a ≤ p → p < a + i → (wset ks a i).getD p false = true
  | 0, _, p, h1, h2 => absurd h2 (by omega)
  | i + 1, h, p, h1, h2 => by
    rw [wset, List.getD_eq_getElem?_getD]
    by_cases e : a + i = p
    · subst e
      rw [List.getElem?_set_self (by rw [wset_len]; omega)]
      rfl
    · rw [List.getElem?_set_ne e, ← List.getD_eq_getElem?_getD]
      exact wset_new ks a i (by omega) p h1 (by omega)
theorem putL_other (l s : List UInt8) (p k : Nat) (hs : s.length = 64) (hp : (p + 1) * 64 ≤ l.length) (hne : p ≠ k) : ((putL l s (64 * p)).drop (k * 64)).take 64 = (l.drop (k * 64)).take 64 := by
  apply List.ext_getElem?
  intro i
  by_cases hi : i < 64
  · rw [List.getElem?_take_of_lt hi, List.getElem?_take_of_lt hi, List.getElem?_drop, List.getElem?_drop]
    unfold putL
    have l1 : (l.take (64 * p)).length = 64 * p := by rw [List.length_take]; omega
    rcases Nat.lt_or_ge k p with q | q
    · rw [List.getElem?_append_left (by omega), List.getElem?_take_of_lt (by omega)]
    · rw [List.getElem?_append_right (by omega), l1, List.getElem?_append_right (by omega), hs, List.getElem?_drop]
      congr 1
      omega
  · rw [List.getElem?_eq_none (by rw [List.length_take]; omega), List.getElem?_eq_none (by rw [List.length_take]; omega)]
theorem crL_same (ks : List Bool) (row : List (Nat × List UInt8)) (n k : Nat) (h : ∀ p, p ∈ row → p.2.length = 64 ∧ p.1 < n ∧ p.1 ≠ k) : ∀ (t : Nat) (l : List UInt8), l.length = n * 64 → ((crL ks t l row).drop (k * 64)).take 64 = (l.drop (k * 64)).take 64 := by
  induction row with
  | nil => exact fun _ _ _ => rfl
  | cons p r ih =>
    intro t l hl
    have hp := h p List.mem_cons_self
    have hp1 : (p.1 + 1) * 64 ≤ l.length := by rw [hl]; exact Nat.mul_le_mul_right 64 hp.2.1
    have ih2 := ih (fun q hq => h q (List.mem_cons_of_mem _ hq)) (t + 1)
    show ((crL ks (t + 1) _ r).drop (k * 64)).take 64 = _
    split
    · rw [ih2 _ (by rw [putL_length _ _ _ (by rw [hp.1]; omega)]; exact hl), putL_other _ _ _ _ hp.1 hp1 hp.2.2]
    · exact ih2 _ hl
/-- A truth of a row that is held is set. -/
theorem DH.wset {w0 : World} {g i p : Nat} {R : List (Nat × Obj)} {d : DV} {W : World} {ks : List Bool} (h : DH w0 g ((i, wo ks) :: R) d W) (hi : w0.heap.size ≤ i) (hne : ∀ q ∈ R, q.1 ≠ i) :
    DH w0 g ((i, wo (ks.set p true)) :: R) d (W.setCell ⟨i, p, none⟩ (.bool true)) := by
  refine h.turn ((OnlyB.refl i W).set p (.bool true)) hi hne ?_
  have hr := h.row (i := i) (o := wo ks) List.mem_cons_self
  unfold wo at hr ⊢
  rw [heap_setCell_same W i p _ _ (.bool true) hr]
  congr 2
  simp [List.map_set]
theorem wo_cell {W : World} {i p : Nat} {ks : List Bool} (h : W.heap[i]? = some (wo ks)) (hp : p < ks.length) : W.cell? ⟨i, p, none⟩ = some (.bool (ks.getD p false)) := by
  unfold wo at h
  rw [cell_of_row _ _ _ _ _ _ h]
  simp [List.getElem?_eq_getElem hp, List.getD_eq_getElem?_getD]
set_option maxHeartbeats 16000000 in
set_option maxRecDepth 100000 in
theorem diskSynced_walk (A : Option Addr) (n c : Nat) (xs : List UInt8) (L : Option Addr) (ln lc : Nat) (l : List OpW) (K : Option Addr) (kn kc : Nat) (ks : List Bool) (w : World) (hx : Bs w A n c xs) (hl : OpsD w L ln lc l) (hk : Rb w K kn kc ks) :
    Calls Try.prog 3 #[.slice A n c, .slice L ln lc, .slice K kn kc] w fun e w' => e = .returned (.bool true) ∧ Below w.heap.size w w' := by
  have HX := Aside0.mk hx
  have HL := Aside0.mk hl
  have HKR := Aside0.mk hk
  have hxl := hx.lim
  have hll := hl.lim
  have hkl := hk.lim
  clear hx hl hk
  by_cases g0 : FewQ ln l
  rotate_left
  · go_enter Try.func3, Try.ntmps3
    go_wp2_with (first
      | (go_at_call 7; refine (few_no L ln lc l w HL.out g0).mono ?_; rintro e w1 ⟨rfl, hB1⟩)
      | (go_at_call 8; refine (aliveD_any _).mono ?_; rintro e w2 ⟨rfl, hB2⟩))
    go_ret
    exact ⟨rfl, below_then hB1 hB1.size hB2⟩
  have G0 := Aside0.mk g0
  clear g0
  by_cases g1 : 3000 < n
  · have d1 : decide (3000 < (n : Int)) = true := decide_eq_true (by omega)
    have d1' : decide (3000 < n) = true := decide_eq_true g1
    clear g1
    go_enter Try.func3, Try.ntmps3
    go_wp2_with (first
      | (go_at_call 7; refine (few_yes L ln lc l w HL.out G0.out).mono ?_; rintro e w1 ⟨rfl, hB1⟩)
      | (go_at_call 8; refine (aliveD_any _).mono ?_; rintro e w2 ⟨rfl, hB2⟩))
    go_ret
    exact ⟨rfl, below_then hB1 hB1.size hB2⟩
  have d1 : decide (3000 < (n : Int)) = false := decide_eq_false (by omega)
  have d1' : decide (3000 < n) = false := decide_eq_false g1
  by_cases g2 : 200 < kn
  · have d2 : decide (200 < (kn : Int)) = true := decide_eq_true (by omega)
    have d2' : decide (200 < kn) = true := decide_eq_true g2
    clear g1 g2
    go_enter Try.func3, Try.ntmps3
    go_wp2_with (first
      | (go_at_call 7; refine (few_yes L ln lc l w HL.out G0.out).mono ?_; rintro e w1 ⟨rfl, hB1⟩)
      | (go_at_call 8; refine (aliveD_any _).mono ?_; rintro e w2 ⟨rfl, hB2⟩))
    go_ret
    exact ⟨rfl, below_then hB1 hB1.size hB2⟩
  have d2 : decide (200 < (kn : Int)) = false := decide_eq_false (by omega)
  have d2' : decide (200 < kn) = false := decide_eq_false g2
  have hn6 := G0.out.n60
  obtain ⟨dvi, hdvi⟩ : ∃ d : DV, (⟨limI 64, loadL xs (cntL n (limI 64)), [], 0, -1, false⟩ : DV) = d := ⟨_, rfl⟩
  obtain ⟨dv0, hdv0⟩ : ∃ d : DV, syncD dvi = d := ⟨_, rfl⟩
  have HII := Aside0.mk (show KI dvi ∧ dvi.ops = 0 ∧ dvi.row = [] ∧ dvi.fuse ≤ 9223372036854775807 by
    rw [← hdvi]
    exact ⟨⟨Int.le_refl _, rfl, rfl⟩, rfl, rfl, by show (-1 : Int) ≤ _; omega⟩)
  have HI0 := Aside0.mk (show KI dv0 ∧ dv0.ops ≤ 1 ∧ dv0.row.length ≤ 0 ∧ dv0.row = [] ∧ syncE dvi = 0 by
    obtain ⟨k1, k2, k3, k4, k5⟩ := HII.out.1.sync
    rw [hdv0] at k1 k2 k3 k4
    exact ⟨k1, by rw [HII.out.2.1] at k4; exact k4, by rw [k3]; exact Nat.le_refl _, k3, k5⟩)
  go_enter Try.func3, Try.ntmps3
  go_upto_region 7 with (first
    | (go_at_call 7; refine (few_yes L ln lc l w HL.out G0.out).mono ?_; rintro e w1 ⟨rfl, hB1⟩)
    | (go_at_call 9; refine (load_h (w0 := w) A n c xs 64 w1 (HX.out.below hB1) (by omega) hB1).mono ?_; rintro e w2 ⟨g, rfl, hH, _⟩; rw [hdvi] at hH; (have H2 := Aside0.mk hH); clear hH)
    | (go_at_call 10; refine (sync_h H2.out HII.out.1.o0 (by rw [HII.out.2.1]; omega) HII.out.2.2.2).mono ?_; rintro e w3 ⟨rfl, hH⟩; rw [hdv0] at hH; rw [HI0.out.2.2.2.2]; (have H3 := Aside0.mk hH); clear hH)
    | (go_at_call 11; refine (image_h H3.out).mono ?_; rintro e w4 ⟨A8, c8, rfl, hO, hB⟩; rw [HI0.out.2.2.2.1] at hO; (obtain ⟨R8, hH, hin, _⟩ := H3.out.own hB hO); (have H4 := Aside0.mk (And.intro hH (And.intro hin (And.intro (show Bs w4 A8 (nD dv0 * 64) c8 dv0.l from hO.bs) hH.ok.len)))); clear hO hB hH hin))
  obtain ⟨l0, hl0⟩ : ∃ x, dv0.l = x := ⟨_, rfl⟩
  obtain ⟨nn, hnn⟩ : ∃ x, nD dv0 = x := ⟨_, rfl⟩
  rw [hl0, hnn] at H4
  rw [hnn]
  have hnl : nn ≤ 1000000000 := by rw [← hnn]; exact H4.out.1.nlim
  replace hl0 := Aside0.mk hl0
  replace hnn := Aside0.mk hnn
  have H5 := Aside0.mk (H4.out.1.lit (wo (List.replicate nn false)))
  have HR8 := Aside0.mk (show ∀ p ∈ R8, p.1 ≠ w4.heap.size from fun p hp => Nat.ne_of_lt (H4.out.1.lt p hp))
  have HIW := Aside0.mk (show w.heap.size ≤ w4.heap.size from H4.out.1.bel.size)
  have mk := mkB nn (by omega)
  simp only [wo_made] at mk
  clear hdvi hdv0 g1 g2 d1 d1' d2 d2' H2 H3
  go_wp2_with (go_at_call 12; refine (size_h H4.out.1).mono ?_; rintro e w5 ⟨rfl, rfl⟩; rw [hnn.out])
  clear mk
  obtain ⟨iw, hiw⟩ : ∃ x, w4.heap.size = x := ⟨_, rfl⟩
  obtain ⟨W5, hW5⟩ : ∃ x, w4.alloc (wo (List.replicate nn false)) = x := ⟨_, rfl⟩
  rw [hiw] at H5 HR8 HIW ⊢
  rw [hW5] at H5 ⊢
  have H8 := Aside0.mk (show Bs W5 A8 (nn * 64) c8 l0 by rw [← hW5]; exact H4.out.2.2.1.alloc _)
  have HIN := Aside0.mk (And.intro H4.out.2.1 H4.out.2.2.2)
  clear hW5 hiw H4
  go_loopg [46] ln (fun gk v wr => ∃ (j : Nat) (dv : DV) (kw : List Bool), Aside (gk + j = ln) ∧ v = .int .i64 (j : Int) ∧ Aside0 (DH w g ((iw, wo kw) :: R8) dv wr ∧ kw.length = nn ∧ KI dv ∧ dv.l = l0 ∧ (∀ p, p ∈ dv.row → kw.getD p.1 false = true) ∧ dv.ops ≤ (j : Int) + 1 ∧ dv.row.length ≤ totD l j))
  case atStart => exact ⟨0, dv0, List.replicate nn false, rfl, rfl, ⟨H5.out, List.length_replicate, HI0.out.1, hl0.out, (fun p hp => by rw [HI0.out.2.2.2.1] at hp; cases hp), by have := HI0.out.2.1; omega, HI0.out.2.2.1⟩⟩
  clear HI0 HII hB1
  case round =>
    obtain ⟨j, dv, kw, hk, rfl, hI⟩ := hrel
    have hjb : j ≤ ln := by have := hk.out; omega
    by_cases hlt : j < ln
    · obtain ⟨ad, rfl, B, m, d, K', kn', kc', hop⟩ := HL.out.atN j hlt
      have HB0 := Aside0.mk (show Free w [] B m from Free.arg hop.row)
      have HRW := Aside0.mk hop.row
      replace hop := hop.below hI.out.1.bel
      have hto := totD_le l ln j hlt
      have htt := G0.out.tot
      obtain ⟨o, ho⟩ : ∃ o, l.getD j op0 = o := ⟨_, rfl⟩
      rw [ho] at hop hto HRW
      obtain ⟨c0, c1, c2, c3, c4, hrow, hkr, bk, ba, bm⟩ := hop
      have hjn : (j : Int) < (ln : Int) := by omega
      have hrl := hrow.len
      have hml := hrow.lim
      have HS := Aside0.mk (show totD l (j + 1) = totD l j + (o.b.length + o.keep.length) by show totD l j + _ = _; rw [ho])
      have HM := Aside0.mk (And.intro (show dv.row.length + m ≤ 1000000 by have := hI.out.2.2.2.2.2.2; omega) (And.intro hI.out.2.2.1.o0 (And.intro (show dv.ops ≤ 1000000 by have := hI.out.2.2.2.2.2.1; omega) (show dv.fuse ≤ 9223372036854775807 by rw [hI.out.2.2.1.fu]; omega))))
      have HMM := Aside0.mk (show m ≤ 8000 by omega)
      obtain ⟨bx, hbx⟩ : ∃ b : Obj, Obj.cells #[.int .i64 o.k, .int .i64 o.at_, .int .i64 o.many, .slice B m d, .slice K' kn' kc'] 34 = b := ⟨_, rfl⟩
      have hNl : iw < wr.heap.size := hI.out.1.lt _ List.mem_cons_self
      have H1 := Aside0.mk (show DH w g ((iw, wo kw) :: (wr.heap.size, bx) :: R8) dv (wr.alloc bx) from (hI.out.1.lit bx).drop (fun p hp => by
        rcases List.mem_cons.1 hp with rfl | hp
        · exact List.mem_cons_of_mem _ List.mem_cons_self
        · rcases List.mem_cons.1 hp with rfl | hp
          · exact List.mem_cons_self
          · exact List.mem_cons_of_mem _ (List.mem_cons_of_mem _ hp)))
      have HNE := Aside0.mk (show ∀ p ∈ (wr.heap.size, bx) :: R8, p.1 ≠ iw from fun p hp => by
        rcases List.mem_cons.1 hp with rfl | hp
        · exact fun q => by simp only at q; omega
        · exact HR8.out p hp)
      have HR1 := Aside0.mk (hrow.alloc bx)
      clear hto htt hrl ho hrow hkr hNl
      go_upto_region 11 with fail
      obtain ⟨N, hN⟩ : ∃ N, wr.heap.size = N := ⟨_, rfl⟩
      obtain ⟨W1, hW1⟩ : ∃ W, wr.alloc bx = W := ⟨_, rfl⟩
      rw [hW1, hN] at H1
      rw [hN] at HNE
      rw [hW1] at HR1
      rw [hW1, hN]
      have hrow1 := H1.out.row (i := N) (o := bx) (List.mem_cons_of_mem _ List.mem_cons_self)
      rw [← hbx] at hrow1
      obtain ⟨b0, b1, b2, b3, b4⟩ := row5_cells hrow1
      replace hbx := Aside0.mk hbx
      clear hW1 hN c0 c1 c2 c3 c4 hrow1
      have DRP := Aside0.mk (fun (kv : List Bool) (dx : DV) (W : World) (h : DH w g ((iw, wo kv) :: (N, bx) :: R8) dx W) => (h.drop (R1 := (iw, wo kv) :: R8) (fun p hp => by
        rcases List.mem_cons.1 hp with rfl | hp
        · exact List.mem_cons_self
        · exact List.mem_cons_of_mem _ (List.mem_cons_of_mem _ hp))))
      by_cases q2 : o.k = 2
      rotate_left
      · obtain ⟨f2a, f2b, f2c, f2d⟩ := eq_no q2
        clear q2
        go_wp2_with fail
        go_roundg (ln - (j + 1))
        case measure => have := hk.out; omega
        case rel => exact ⟨j + 1, dv, kw, by have := hk.out; exact (show ln - (j + 1) + (j + 1) = ln by omega), by go_num, ⟨DRP.out _ _ _ H1.out, hI.out.2.1, hI.out.2.2.1, hI.out.2.2.2.1, hI.out.2.2.2.2.1, by have := hI.out.2.2.2.2.2.1; omega, by rw [HS.out]; have := hI.out.2.2.2.2.2.2; omega⟩⟩
      obtain ⟨f2a, f2b, f2c, f2d⟩ := eq_yes q2
      clear q2
      by_cases hE : writeE dv o.at_ o.b = 0
      rotate_left
      · have HE := Aside0.mk (write_none hI.out.2.2.1 hE)
        obtain ⟨ev, hev⟩ : ∃ x, writeE dv o.at_ o.b = x := ⟨_, rfl⟩
        rw [hev] at hE
        obtain ⟨ea, eb, ec, ed⟩ := eq_no hE
        replace hev := Aside0.mk hev
        clear hE
        go_wp2_with (go_at_call 13; refine (write_h H1.out o.at_ B m d o.b HR1.out HB0.out.up HM.out.1 HM.out.2.1 HM.out.2.2.1 HM.out.2.2.2).mono ?_; rintro e w4 ⟨rfl, hW⟩; rw [hev.out]; rw [HE.out] at hW; (have H4 := Aside0.mk hW); clear hW)
        go_roundg (ln - (j + 1))
        case measure => have := hk.out; omega
        case rel => exact ⟨j + 1, dv, kw, by have := hk.out; exact (show ln - (j + 1) + (j + 1) = ln by omega), by go_num, ⟨DRP.out _ _ _ H4.out, hI.out.2.1, hI.out.2.2.1, hI.out.2.2.2.1, hI.out.2.2.2.2.1, by have := hI.out.2.2.2.2.2.1; omega, by rw [HS.out]; have := hI.out.2.2.2.2.2.2; omega⟩⟩
      have hws := write_some hI.out.2.2.1 hE
      obtain ⟨hwd, hw64, hwp, hwa, hwn⟩ := wrE_ok hws.1
      obtain ⟨q, hq⟩ : ∃ q, o.b.length / 64 = q := ⟨_, rfl⟩
      rw [hq] at hwn hws
      have hbm := HRW.out.len
      have HKW := Aside0.mk (hI.out.2.2.1.write o.at_ o.b)
      obtain ⟨a, ha⟩ : ∃ a : Nat, o.at_.toNat = a := ⟨_, rfl⟩
      have hai : o.at_ = (a : Int) := by omega
      rw [ha] at hws hwn
      have hnd8 : nD dv = nn := by
        have h1 := hI.out.1.ok.len
        rw [hI.out.2.2.2.1, HIN.out.2] at h1
        omega
      rw [hnd8] at hwn
      have hmq : m = q * 64 := by omega
      have hq1 : 0 < q := by omega
      have HWS := Aside0.mk (And.intro hws.2 (And.intro hwn (And.intro hmq (And.intro hai hE))))
      have hv : (m : Int) / 64 = (q : Int) := by omega
      obtain ⟨dv2, hdv2⟩ : ∃ x, writeD dv o.at_ o.b = x := ⟨_, rfl⟩
      have HDV2 := Aside0.mk hdv2
      have hlq := HMM.out
      clear hE hws hwd hw64 hwp hwa hwn hbm ha hnd8 hdv2 hai hmq
      have ea : ((0 : Int) == 0) = true := rfl
      go_wp2_with (go_at_call 13; refine (write_h H1.out o.at_ B m d o.b HR1.out HB0.out.up HM.out.1 HM.out.2.1 HM.out.2.2.1 HM.out.2.2.2).mono ?_; rintro e w4 ⟨rfl, hW⟩; rw [HWS.out.2.2.2.2]; rw [HDV2.out] at hW; (have H4 := Aside0.mk hW); (have hrow4 := H4.out.row (i := N) (o := bx) (List.mem_cons_of_mem _ List.mem_cons_self)); rw [← hbx.out] at hrow4; clear hW b0 b1 b2 b3 b4; (obtain ⟨b0, b1, b2, b3, b4⟩ := row5_cells hrow4); clear hrow4)
      clear H1 f2a f2b f2c f2d b0 b1 b2 b3 b4
      go_loopg [66] q (fun gk2 v66 wr => ∃ i : Nat, Aside (gk2 + i = q) ∧ v66 = .int .i64 (i : Int) ∧ Aside0 (DH w g ((iw, wo (wset kw a i)) :: (N, bx) :: R8) dv2 wr))
      case atStart => exact ⟨0, rfl, rfl, ⟨H4.out⟩⟩
      clear H4
      case round =>
        obtain ⟨i, hk2, rfl, hJ⟩ := hrel
        have hiq : i ≤ q := by have := hk2.out; omega
        have hrow5 := hJ.out.row (i := N) (o := bx) (List.mem_cons_of_mem _ List.mem_cons_self)
        rw [← hbx.out] at hrow5
        obtain ⟨b0, b1, b2, b3, b4⟩ := row5_cells hrow5
        clear hrow5
        rcases Nat.lt_or_ge i q with hltq | hgeq
        · have e1 : decide ((i : Int) < (q : Int)) = true := decide_eq_true (by omega)
          have e1' : decide (i < q) = true := decide_eq_true hltq
          obtain ⟨hrw, haq, hmq, hai, _⟩ := HWS.out
          have hkl : (wset kw a i).length = nn := by rw [wset_len]; exact hI.out.2.1
          have hrw6 := hJ.out.row (i := iw) (o := wo (wset kw a i)) List.mem_cons_self
          obtain ⟨p, hp⟩ : ∃ p, a + i = p := ⟨_, rfl⟩
          have hc6 := wo_cell hrw6 (p := p) (by omega)
          unfold wo at hrw6
          have hf6 := fun j => Go.Joins.unfrozen_of_block hrw6 j
          have w1' : IntKind.i64.wrap (o.at_ + (i : Int)) = (p : Int) := by rw [IntWalk.i64_in _ (by omega)]; omega
          have hpn : (p : Int) < (nn : Int) := by omega
          have hp0 : (0 : Int) ≤ (p : Int) := by omega
          have HW := Aside0.mk (show DH w g ((iw, wo (wset kw a (i + 1))) :: (N, bx) :: R8) dv2 (wr.setCell ⟨iw, p, none⟩ (.bool true)) by
            have := hJ.out.wset (p := p) HIW.out HNE.out
            rw [wset, hp]
            exact this)
          replace hp := Aside0.mk hp
          clear hrw haq hmq hai hkl hrw6
          go_wp2_with fail
          go_roundg (q - (i + 1))
          case measure => have := hk2.out; omega
          case rel => exact ⟨i + 1, by have := hk2.out; exact (show q - (i + 1) + (i + 1) = q by omega), by go_num, HW⟩
        · obtain rfl : q = i := by omega
          have e1 : decide ((q : Int) < (q : Int)) = false := by simp
          clear b0 b1 b2 b3 b4
          go_wp2_with fail
          go_roundg (ln - (j + 1))
          case measure => have := hk.out; omega
          case rel =>
            have hr2 : dv2.row = dv.row ++ segs a o.b q := by rw [← HDV2.out]; exact HWS.out.1
            refine ⟨j + 1, dv2, wset kw a q, by have := hk.out; exact (show ln - (j + 1) + (j + 1) = ln by omega), by go_num, ⟨DRP.out _ _ _ hJ.out, by rw [wset_len]; exact hI.out.2.1, ?_, ?_, ?_, ?_, ?_⟩⟩
            · rw [← HDV2.out]; exact HKW.out.1
            · rw [← HDV2.out, HKW.out.2.1]; exact hI.out.2.2.2.1
            · rw [hr2]
              intro p hp
              rcases List.mem_append.1 hp with hp | hp
              · exact wset_keep _ _ _ (hI.out.2.2.2.2.1 p hp) _
              · have hb := HRW.out.len
                have h3 := HWS.out.2.2.1
                have h4 := segs_mem a o.b q (by omega) p hp
                exact wset_new kw a q (by rw [hI.out.2.1]; exact HWS.out.2.1) p.1 h4.2.1 h4.2.2
            · have h1 := HKW.out.2.2; rw [HDV2.out] at h1; have := hI.out.2.2.2.2.2.1; omega
            · rw [hr2, List.length_append, segs_len, HS.out]
              have := hI.out.2.2.2.2.2.2
              have h2 := HRW.out.len
              have h3 := HWS.out.2.2.1
              omega
    · obtain rfl : j = ln := by omega
      have hst : nD (crashD dv ks) = nn := by
        have h1 := (crashD_ok hI.out.1.ok ks).2
        have h2 := hI.out.1.ok.len
        rw [hI.out.2.2.2.1, HIN.out.2] at h2
        rw [h1]
        omega
      have HST := Aside0.mk hst
      have HLC := Aside0.mk (show (crashD dv ks).l = crL ks 0 l0 dv.row by show crL ks 0 dv.l dv.row = _; rw [hI.out.2.2.2.1])
      have H0 := Aside0.mk hI.out.1
      have HEQ := Aside0.mk (fun (k : Nat) (hk : kw.getD k false = false) => crL_same ks dv.row nn k (fun p hp => by
        have h1 := hI.out.1.ok.each p hp
        refine ⟨h1.1, ?_, fun z => ?_⟩
        · have h2 := hI.out.1.ok.len
          rw [hI.out.2.2.2.1, HIN.out.2] at h2
          omega
        · have := hI.out.2.2.2.2.1 p hp
          rw [z, hk] at this
          cases this) 0 l0 HIN.out.2)
      have H88 := Aside0.mk (DH.same (H5.out.drop (R1 := R8) (fun p hp => List.mem_cons_of_mem _ hp)) (H0.out.drop (R1 := R8) (fun p hp => List.mem_cons_of_mem _ hp)) HIN.out.1 H8.out)
      obtain ⟨n8, hn8⟩ : ∃ x, nn * 64 = x := ⟨_, rfl⟩
      rw [hn8] at H88 ⊢
      have r1 : ((n8 : Int) == (n8 : Int)) = true := by simp
      have HN8 := Aside0.mk hn8
      have HKL := Aside0.mk hI.out.2.1
      clear hst hn8
      go_wp2_with (first
        | (go_at_call 14; refine (crash_h H0.out K kn kc ks (HKR.out.below H0.out.bel) (Free.argb HKR.out)).mono ?_; rintro e w5 ⟨rfl, hW⟩; (have H6 := Aside0.mk (And.intro hW (DH.same (H0.out.drop (R1 := R8) (fun p hp => List.mem_cons_of_mem _ hp)) (hW.drop (R1 := R8) (fun p hp => List.mem_cons_of_mem _ hp)) (by rw [← HN8.out]; exact HIN.out.1) H88.out))); clear hW)
        | (go_at_call 11; refine (image_h H6.out.1).mono ?_; rintro e w7 ⟨A13, c13, rfl, hO, hB⟩; rw [show seenL (crashD dv ks).l (crashD dv ks).row = (crashD dv ks).l from rfl, HLC.out] at hO; rw [HST.out, HN8.out] at hO; rw [HST.out, HN8.out]; (have H7 := Aside0.mk (And.intro (H6.out.1.step hB) (And.intro hO.bs (H6.out.2.below hB)))); clear hO hB))
      go_loopg [89] nn (fun gk v wr => ∃ k : Nat, Aside (gk + k = nn) ∧ v = .int .i64 (k : Int) ∧ Aside0 (Below w7.heap.size w7 wr))
      case atStart => exact ⟨0, rfl, rfl, ⟨Below.refl _ _⟩⟩
      case round =>
        obtain ⟨k, hk3, rfl, hB⟩ := hrel
        have hkn : k ≤ nn := by have := hk3.out; omega
        rcases Nat.lt_or_ge k nn with hltk | hgek
        · have e1 : decide ((k : Int) < (nn : Int)) = true := decide_eq_true (by omega)
          have e1' : decide (k < nn) = true := decide_eq_true hltk
          have hdw := H7.out.1.step hB.out
          have hck := wo_cell (hdw.row (i := iw) (o := wo kw) List.mem_cons_self) (p := k) (by rw [HKL.out]; exact hltk)
          clear hdw
          have hkz : (k : Int) < (nn : Int) := by omega
          cases hb : kw.getD k false with
          | true =>
            rw [hb] at hck
            clear hb
            go_upto_region 25 with fail
            go_quiet (fail)
            have HB2 := Aside0.mk (below_then hB.out hB.out.size (below_drawn (Below.refl _ wr) nq))
            go_wp2_with fail
            go_roundg (nn - (k + 1))
            case measure => have := hk3.out; omega
            case rel => exact ⟨k + 1, by have := hk3.out; exact (show nn - (k + 1) + (k + 1) = nn by omega), by go_num, HB2⟩
          | false =>
            rw [hb] at hck
            have hn8 := HN8.out
            have hxy := HEQ.out k hb
            obtain ⟨yy, hyy⟩ : ∃ y, (l0.drop (k * 64)).take 64 = y := ⟨_, rfl⟩
            rw [hyy] at hxy
            have h1 := ((H7.out.2.1.below hB.out).drop (k * 64) (by omega)).take 64 (by omega)
            have h2 := ((H7.out.2.2.below hB.out).drop (k * 64) (by omega)).take 64 (by omega)
            rw [hxy] at h1
            rw [hyy] at h2
            have e0 : (yy == yy) = true := by simp
            have hca := H7.out.2.1.le
            have hcb := H7.out.2.2.le
            have s1 : ∀ W : World, (Instr.slice 22 (.slice A13 n8 c13) (some (.int .i64 ((k : Int) * 64))) (some (.int .i64 (((k : Int) + 1) * 64))) none).run Try.prog W = .ok (.slice (cutA A13 c13 (k * 64)) 64 (c13 - k * 64)) W := fun W => by
              rw [sl8_lh W A13 n8 c13 .i64 .i64 _ _ (by omega) (by omega) (by omega), show ((k : Int) * 64).toNat = k * 64 by omega, show (((k : Int) + 1) * 64).toNat - k * 64 = 64 by omega]
            have s2 : ∀ W : World, (Instr.slice 22 (.slice A8 n8 c8) (some (.int .i64 ((k : Int) * 64))) (some (.int .i64 (((k : Int) + 1) * 64))) none).run Try.prog W = .ok (.slice (cutA A8 c8 (k * 64)) 64 (c8 - k * 64)) W := fun W => by
              rw [sl8_lh W A8 n8 c8 .i64 .i64 _ _ (by omega) (by omega) (by omega), show ((k : Int) * 64).toNat = k * 64 by omega, show (((k : Int) + 1) * 64).toNat - k * 64 = 64 by omega]
            have w3' : IntKind.i64.wrap ((k : Int) * 64) = (k : Int) * 64 := IntWalk.i64_in _ (by omega)
            have w4' : IntKind.i64.wrap ((k : Int) + 1) = (k : Int) + 1 := IntWalk.i64_in _ (by omega)
            have w5' : IntKind.i64.wrap (((k : Int) + 1) * 64) = ((k : Int) + 1) * 64 := IntWalk.i64_in _ (by omega)
            have HE1 := Aside0.mk h1
            have HE2 := Aside0.mk h2
            clear hn8 hxy hyy h1 h2 hca hcb hb
            go_upto_region 25 with fail
            refine wp_region_ext (by kernel_rfl) (by kernel_rfl) ?_
            repeat (go_big_quiet_step ((go_at_call 15; exact Calls.ext_same (equal8_any _ _ _ _ _ _ _ _ _ (HE1.out.ext _) (HE2.out.ext _)))))
            refine wpQuiet_nil ?_
            rintro w' ⟨kx, rfl⟩
            have HB2 := Aside0.mk (below_then hB.out hB.out.size kx.bel)
            clear s1 s2 w3' w4' w5' hck
            go_wp2_with fail
            go_roundg (nn - (k + 1))
            case measure => have := hk3.out; omega
            case rel => exact ⟨k + 1, by have := hk3.out; exact (show nn - (k + 1) + (k + 1) = nn by omega), by go_num, HB2⟩
        · obtain rfl : nn = k := by omega
          have e1 : decide ((nn : Int) < (nn : Int)) = false := by simp
          go_wp2_with (go_at_call 8; refine (aliveD_any _).mono ?_; rintro e w9 ⟨rfl, hB9⟩)
          go_ret
          exact ⟨rfl, below_then (below_then H7.out.1.bel H7.out.1.bel.size hB.out) (Nat.le_trans H7.out.1.bel.size hB.out.size) hB9⟩
end Go.Proofs.Ytcegphnhohpegaa
