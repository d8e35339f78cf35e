/- The walk of the law DiskKeeps. -/
import Derived.Test.YtcegphnhohpegaaD16
set_option linter.unusedVariables false
set_option linter.unusedSimpArgs false
namespace Go.Proofs.Ytcegphnhohpegaa
open Go.RowKit

theorem eq_yes {x k : Int} (h : x = k) : (x == k) = true ∧ decide (x = k) = true ∧ (x != k) = false ∧ decide (¬ x = k) = false := ⟨beq_iff_eq.2 h, decide_eq_true h, by rw [bne, beq_iff_eq.2 h]; rfl, decide_eq_false (fun q => q h)⟩
theorem eq_no {x k : Int} (h : ¬ x = k) : (x == k) = false ∧ decide (x = k) = false ∧ (x != k) = true ∧ decide (¬ x = k) = true := ⟨beq_eq_false_iff_ne.2 h, decide_eq_false h, by rw [bne, beq_eq_false_iff_ne.2 h]; rfl, decide_eq_true h⟩
theorem DM.low {w : World} {base g n c m e : Nat} {A B : Option Addr} {d : DV} (h : DM w base g A n c B m e d) (i : Nat) (hi : i < base) : Apt g A B i :=
  ⟨by have := h.lo; omega, fun q => by have := h.sl.lo _ q; omega, fun q => by have := h.sr.lo _ q; omega⟩
theorem DM.hi {w : World} {base g n c m e : Nat} {A B : Option Addr} {d : DV} (h : DM w base g A n c B m e d) : g < w.heap.size ∧ (∀ k, A = some ⟨k, 0, none⟩ → k < w.heap.size) ∧ (∀ k, B = some ⟨k, 0, none⟩ → k < w.heap.size) := by
  refine ⟨(Array.getElem?_eq_some_iff.1 h.row).1, fun k q => ?_, fun k q => ?_⟩
  · rcases h.sl.addr with r | ⟨i, r, _, r2⟩
    · rw [r] at q; cases q
    · rw [r] at q; injection q with q; injection q with q; omega
  · rcases h.sr.addr with r | ⟨i, r, _, r2⟩
    · rw [r] at q; cases q
    · rw [r] at q; injection q with q; injection q with q; omega
/-- What is done to one disk leaves another as it was. -/
theorem DM.fr {w w1 : World} {base g n c m e g' : Nat} {A B A' B' : Option Addr} {d : DV} (h : DM w base g A n c B m e d) (hf : Fr g' A' B' w w1) (hg : Apt g' A' B' g) (hA : ∀ k, A = some ⟨k, 0, none⟩ → Apt g' A' B' k) (hB : ∀ k, B = some ⟨k, 0, none⟩ → Apt g' A' B' k) : DM w1 base g A n c B m e d :=
  ⟨(hf.block g h.hi.1 hg.1 hg.2.1 hg.2.2).trans h.row, h.lo, h.sl.kept (fun k e q => hf.block k q (hA k e).1 (hA k e).2.1 (hA k e).2.2), h.sr.kept (fun k e q => hf.block k q (hB k e).1 (hB k e).2.1 (hB k e).2.2), h.na, h.nb, h.ab⟩
theorem Bs.fr {w w1 : World} {g' : Nat} {A' B' A : Option Addr} {n c : Nat} {xs : List UInt8} (h : Bs w A n c xs) (hf : Fr g' A' B' w w1) (hA : 0 < n → ∀ a, A = some a → Apt g' A' B' a.block) : Bs w1 A n c xs :=
  h.blk fun a e h0 => hf.block _ (h.lt a e h0) (hA h0 a e).1 (hA h0 a e).2.1 (hA h0 a e).2.2
theorem crL_all (l : List UInt8) (row : List (Nat × List UInt8)) : ∀ k, crL [true] k l row = seenL l row := by
  induction row generalizing l with
  | nil => exact fun _ => rfl
  | cons p r ih =>
    intro k
    show crL [true] (k + 1) _ r = seenL _ r
    rw [if_pos ⟨by decide, by rw [show ([true] : List Bool).length = 1 from rfl, Nat.mod_one]; rfl⟩]
    exact ih _ _
theorem crL_none (l : List UInt8) (row : List (Nat × List UInt8)) : ∀ k, crL [] k l row = l := by
  induction row generalizing l with
  | nil => exact fun _ => rfl
  | cons p r ih =>
    intro k
    show crL [] (k + 1) _ r = l
    rw [if_neg (fun q => absurd q.1 (by decide))]
    exact ih _ _
theorem opD_free {d : DV} (hf : d.fuse = -1) : (opD d).fuse = -1 ∧ (opD d).down = false := ⟨by unfold opD; simp only [hf]; decide, by unfold opD; simp only [hf]; decide⟩
/-- A disk that is not armed and is not down. -/
structure KI (d : DV) : Prop where
  o0 : 0 ≤ d.ops
  fu : d.fuse = -1
  dn : d.down = false
theorem KI.write {d : DV} (h : KI d) (a : Int) (b : List UInt8) : KI (writeD d a b) ∧ (writeD d a b).l = d.l ∧ (writeD d a b).ops ≤ d.ops + 1 := by
  unfold writeD
  split
  · have := opD_free (d := { d with row := d.row ++ segs a.toNat b (b.length / 64) }) h.fu
    exact ⟨⟨by show 0 ≤ d.ops + 1; have := h.o0; omega, this.1, this.2⟩, rfl, Int.le_refl _⟩
  · exact ⟨h, rfl, by omega⟩
theorem KI.sync {d : DV} (h : KI d) : KI (syncD d) ∧ (syncD d).l = seenL d.l d.row ∧ (syncD d).row = [] ∧ (syncD d).ops ≤ d.ops + 1 ∧ syncE d = 0 := by
  have h1 : ¬ d.down = true := by rw [h.dn]; decide
  have h2 : ¬ d.fuse = 0 := by rw [h.fu]; decide
  have := opD_free h.fu
  unfold syncD syncE
  rw [if_neg h1, if_neg h2, if_neg h1, if_neg h2]
  exact ⟨⟨by show 0 ≤ d.ops + 1; have := h.o0; omega, this.1, this.2⟩, rfl, rfl, Int.le_refl _, rfl⟩
set_option maxHeartbeats 8000000 in
set_option maxRecDepth 100000 in
theorem diskKeeps_walk (A : Option Addr) (n c : Nat) (xs : List UInt8) (L : Option Addr) (ln lc : Nat) (l : List OpW) (w : World) (hx : Bs w A n c xs) (hl : OpsD w L ln lc l) :
    Calls Try.prog 6 #[.slice A n c, .slice L ln lc] w fun e w' => e = .returned (.bool true) ∧ Below w.heap.size w w' := by
  have HX := Aside0.mk hx
  have HL := Aside0.mk hl
  have hxl := hx.lim
  have hll := hl.lim
  clear hx hl
  by_cases g0 : FewQ ln l
  rotate_left
  · go_enter Try.func6, Try.ntmps6
    go_wp2_with (first
      | (go_at_call 7; refine (few_no L ln lc l w HL.out g0).mono ?_; rintro e w1 ⟨rfl, hB1⟩)
      | (go_at_call 8; refine (aliveD_any _).mono ?_; rintro e w2 ⟨rfl, hB2⟩))
    go_ret
    exact ⟨rfl, below_then hB1 hB1.size hB2⟩
  have G0 := Aside0.mk g0
  clear g0
  by_cases g1 : 3000 < n
  · have d1 : decide (3000 < (n : Int)) = true := decide_eq_true (by omega)
    have d1' : decide (3000 < n) = true := decide_eq_true g1
    clear g1
    go_enter Try.func6, Try.ntmps6
    go_wp2_with (first
      | (go_at_call 7; refine (few_yes L ln lc l w HL.out G0.out).mono ?_; rintro e w1 ⟨rfl, hB1⟩)
      | (go_at_call 8; refine (aliveD_any _).mono ?_; rintro e w2 ⟨rfl, hB2⟩))
    go_ret
    exact ⟨rfl, below_then hB1 hB1.size hB2⟩
  have d1 : decide (3000 < (n : Int)) = false := decide_eq_false (by omega)
  have d1' : decide (3000 < n) = false := decide_eq_false g1
  have hn6 := G0.out.n60
  obtain ⟨dv0, hdv0⟩ : ∃ d : DV, (⟨limI 64, loadL xs (cntL n (limI 64)), [], 0, -1, false⟩ : DV) = d := ⟨_, rfl⟩
  have HI0 := Aside0.mk (show KI dv0 ∧ dv0.ops ≤ 0 ∧ dv0.row.length ≤ 0 ∧ dv0.row = [] by
    rw [← hdv0]
    exact ⟨⟨Int.le_refl _, rfl, rfl⟩, Int.le_refl _, Nat.le_refl _, rfl⟩)
  go_enter Try.func6, Try.ntmps6
  go_wp2_with (first
    | (go_at_call 7; refine (few_yes L ln lc l w HL.out G0.out).mono ?_; rintro e w1 ⟨rfl, hB1⟩)
    | (go_at_call 9; refine (load_h (w0 := w) A n c xs 64 w1 (HX.out.below hB1) (by omega) hB1).mono ?_; rintro e w2 ⟨g, rfl, hH, _⟩; rw [hdv0] at hH; (have H2 := Aside0.mk hH); clear hH)
    | (go_at_call 11; refine (image_h H2.out).mono ?_; rintro e w3 ⟨A6, c6, rfl, hO, hB⟩; (obtain ⟨R1, hH, hin, _⟩ := H2.out.own hB hO); rw [HI0.out.2.2.2] at hO; (have H3 := Aside0.mk (And.intro hH (And.intro hin (show Bs w3 A6 (nD dv0 * 64) c6 dv0.l from hO.bs)))); clear hO hB hH hin))
  clear hdv0 g1 d1 d1' H2
  go_loopg [6, 31] ln (fun gk v6 v wr => ∃ (j : Nat) (dv : DV) (A6 : Option Addr) (c6 : Nat) (R1 : List (Nat × Obj)), Aside (gk + j = ln) ∧ v = .int .i64 (j : Int) ∧ v6 = .slice A6 (nD dv * 64) c6 ∧ Aside0 (DH w g R1 dv wr ∧ InR R1 A6 (nD dv * 64) ∧ Bs wr A6 (nD dv * 64) c6 dv.l ∧ KI dv ∧ dv.ops ≤ (j : Int) ∧ dv.row.length ≤ totD l j))
  case atStart => exact ⟨0, dv0, A6, c6, R1, rfl, rfl, rfl, ⟨H3.out.1, H3.out.2.1, H3.out.2.2, HI0.out.1, HI0.out.2.1, HI0.out.2.2.1⟩⟩
  clear H3 HI0 hB1
  case round =>
    obtain ⟨j, dv, A6, c6, R1, hk, rfl, rfl, hI⟩ := hrel
    have hjb : j ≤ ln := by have := hk.out; omega
    by_cases hlt : j < ln
    · obtain ⟨ad, rfl, B, m, d, K, kn, kc, hop⟩ := HL.out.atN j hlt
      have HB0 := Aside0.mk (show Free w [] B m from Free.arg hop.row)
      replace hop := hop.below hI.out.1.bel
      have hto := totD_le l ln j hlt
      have htt := G0.out.tot
      obtain ⟨o, ho⟩ : ∃ o, l.getD j op0 = o := ⟨_, rfl⟩
      rw [ho] at hop hto
      obtain ⟨c0, c1, c2, c3, c4, hrow, hkr, bk, ba, bm⟩ := hop
      have hjn : (j : Int) < (ln : Int) := by omega
      have hrl := hrow.len
      have HS := Aside0.mk (show totD l (j + 1) = totD l j + (o.b.length + o.keep.length) by show totD l j + _ = _; rw [ho])
      have HM := Aside0.mk (And.intro (show dv.row.length + m ≤ 1000000 by have := hI.out.2.2.2.2.2; omega) (And.intro hI.out.2.2.2.1.o0 (And.intro (show dv.ops ≤ 1000000 by have := hI.out.2.2.2.2.1; omega) (show dv.fuse ≤ 9223372036854775807 by rw [hI.out.2.2.2.1.fu]; omega))))
      obtain ⟨bx, hbx⟩ : ∃ b : Obj, Obj.cells #[.int .i64 o.k, .int .i64 o.at_, .int .i64 o.many, .slice B m d, .slice K kn kc] 34 = b := ⟨_, rfl⟩
      have H1 := Aside0.mk (hI.out.1.lit bx)
      have HR1 := Aside0.mk (And.intro (hrow.alloc bx) (hI.out.2.2.1.alloc bx))
      clear hto htt hrl ho hrow hkr
      go_upto_region 10 with fail
      obtain ⟨N, hN⟩ : ∃ N, wr.heap.size = N := ⟨_, rfl⟩
      obtain ⟨W1, hW1⟩ : ∃ W, wr.alloc bx = W := ⟨_, rfl⟩
      rw [hW1, hN] at H1
      rw [hW1] at HR1
      rw [hW1, hN]
      have hrow1 := H1.out.row List.mem_cons_self
      rw [← hbx] at hrow1
      obtain ⟨b0, b1, b2, b3, b4⟩ := row5_cells hrow1
      replace hbx := Aside0.mk hbx
      clear hW1 hN c0 c1 c2 c3 c4 hrow1
      by_cases q2 : o.k = 2
      · obtain ⟨f2a, f2b, f2c, f2d⟩ := eq_yes q2
        obtain ⟨f3a, f3b, f3c, f3d⟩ := eq_no (show ¬ o.k = 3 by omega)
        have HK := Aside0.mk (show (0 ≤ o.k ∧ o.k ≤ 3) ∧ doesE dv o = writeE dv o.at_ o.b ∧ doesD dv o = writeD dv o.at_ o.b from ⟨by omega, by unfold doesE; rw [if_neg (by omega), if_neg (by omega), if_pos q2], by unfold doesD; rw [if_neg (by omega), if_neg (by omega), if_pos q2]⟩)
        have HW := Aside0.mk (And.intro (hI.out.2.2.2.1.write o.at_ o.b) (And.intro (writeD_nD dv o.at_ o.b) (doesD_len dv o)))
        obtain ⟨ev, hev⟩ : ∃ x, writeE dv o.at_ o.b = x := ⟨_, rfl⟩
        rw [hev] at HK
        clear q2 hev
        have hE : ev = 0 ∨ ¬ ev = 0 := by omega
        have fin : ∀ W, DH w g ((N, bx) :: R1) (writeD dv o.at_ o.b) W → ∃ (j' : Nat) (dv' : DV) (A6' : Option Addr) (c6' : Nat) (R1' : List (Nat × Obj)), Aside (ln - (j + 1) + j' = ln) ∧ Value.int .i64 ((j : Int) + 1) = .int .i64 (j' : Int) ∧ Value.slice A6 (nD dv * 64) c6 = .slice A6' (nD dv' * 64) c6' ∧ Aside0 (DH w g R1' dv' W ∧ InR R1' A6' (nD dv' * 64) ∧ Bs W A6' (nD dv' * 64) c6' dv'.l ∧ KI dv' ∧ dv'.ops ≤ (j' : Int) ∧ dv'.row.length ≤ totD l j') := fun W hW => by
          have hh := hW.drop (R1 := R1) (fun p hp => List.mem_cons_of_mem _ hp)
          refine ⟨j + 1, writeD dv o.at_ o.b, A6, c6, R1, by have := hk.out; exact (show ln - (j + 1) + (j + 1) = ln by omega), by go_num, by rw [HW.out.2.1], ⟨hh, by rw [HW.out.2.1]; exact hI.out.2.1, ?_, HW.out.1.1, ?_, ?_⟩⟩
          · rw [HW.out.2.1, HW.out.1.2.1]
            exact hI.out.1.same hh hI.out.2.1 hI.out.2.2.1
          · have := HW.out.1.2.2; have := hI.out.2.2.2.2.1; omega
          · have h1 := HW.out.2.2
            rw [HK.out.2.2] at h1
            rw [HS.out]
            have := hI.out.2.2.2.2.2
            omega
        have FIN := Aside0.mk fin
        clear fin
        rcases hE with hE | hE
        · obtain ⟨ea, eb, ec, ed⟩ := eq_yes hE
          clear hE
          go_wp2_with (go_at_call 19; refine (does_h H1.out o B K m d kn kc HK.out.1 HR1.out.1 HB0.out.up HM.out.1 HM.out.2.1 HM.out.2.2.1 HM.out.2.2.2).mono ?_; rintro e w6 ⟨v, rfl, hH⟩; rw [HK.out.2.2] at hH; rw [HK.out.2.1]; (have H6 := Aside0.mk hH); (have hrow4 := H6.out.row List.mem_cons_self); rw [← hbx.out] at hrow4; clear hH b0 b1 b2 b3 b4; (obtain ⟨b0, b1, b2, b3, b4⟩ := row5_cells hrow4); clear hrow4)
          go_roundg (ln - (j + 1))
          case measure => have := hk.out; omega
          case rel => exact FIN.out _ H6.out
        · obtain ⟨ea, eb, ec, ed⟩ := eq_no hE
          clear hE
          go_wp2_with (go_at_call 19; refine (does_h H1.out o B K m d kn kc HK.out.1 HR1.out.1 HB0.out.up HM.out.1 HM.out.2.1 HM.out.2.2.1 HM.out.2.2.2).mono ?_; rintro e w6 ⟨v, rfl, hH⟩; rw [HK.out.2.2] at hH; rw [HK.out.2.1]; (have H6 := Aside0.mk hH); (have hrow4 := H6.out.row List.mem_cons_self); rw [← hbx.out] at hrow4; clear hH b0 b1 b2 b3 b4; (obtain ⟨b0, b1, b2, b3, b4⟩ := row5_cells hrow4); clear hrow4)
          go_roundg (ln - (j + 1))
          case measure => have := hk.out; omega
          case rel => exact FIN.out _ H6.out
      · obtain ⟨f2a, f2b, f2c, f2d⟩ := eq_no q2
        by_cases q3 : o.k = 3
        · obtain ⟨f3a, f3b, f3c, f3d⟩ := eq_yes q3
          have hks := hI.out.2.2.2.1.sync
          have HK := Aside0.mk (show (0 ≤ o.k ∧ o.k ≤ 3) ∧ doesE dv o = 0 ∧ doesD dv o = syncD dv from ⟨by omega, by unfold doesE; rw [if_neg (by omega), if_neg (by omega), if_neg (by omega)]; exact hks.2.2.2.2, by unfold doesD; rw [if_neg (by omega), if_neg (by omega), if_neg (by omega)]⟩)
          have HW := Aside0.mk hks
          clear q2 q3 hks
          go_wp2_with (first
            | (go_at_call 19; refine (does_h H1.out o B K m d kn kc HK.out.1 HR1.out.1 HB0.out.up HM.out.1 HM.out.2.1 HM.out.2.2.1 HM.out.2.2.2).mono ?_; rintro e w6 ⟨v, rfl, hH⟩; rw [HK.out.2.2] at hH; rw [HK.out.2.1]; (have H6 := Aside0.mk hH); (have hrow4 := H6.out.row List.mem_cons_self); rw [← hbx.out] at hrow4; clear hH b0 b1 b2 b3 b4; (obtain ⟨b0, b1, b2, b3, b4⟩ := row5_cells hrow4); clear hrow4)
            | (go_at_call 11; refine (image_h H6.out).mono ?_; rintro e w7 ⟨A7, c7, rfl, hO, hB⟩; (obtain ⟨R7, hH, hin, _⟩ := H6.out.own hB hO); rw [HW.out.2.2.1] at hO; (have H7 := Aside0.mk (And.intro hH (And.intro hin (show Bs w7 A7 (nD (syncD dv) * 64) c7 (syncD dv).l from hO.bs)))); clear hO hB hH hin))
          go_roundg (ln - (j + 1))
          case measure => have := hk.out; omega
          case rel =>
            refine ⟨j + 1, syncD dv, A7, c7, R7, by have := hk.out; exact (show ln - (j + 1) + (j + 1) = ln by omega), by go_num, rfl, ⟨H7.out.1, H7.out.2.1, H7.out.2.2, HW.out.1, by have := HW.out.2.2.2.1; have := hI.out.2.2.2.2.1; omega, by rw [HW.out.2.2.1]; exact Nat.zero_le _⟩⟩
        · obtain ⟨f3a, f3b, f3c, f3d⟩ := eq_no q3
          clear q2 q3
          go_wp2_with fail
          go_roundg (ln - (j + 1))
          case measure => have := hk.out; omega
          case rel =>
            refine ⟨j + 1, dv, A6, c6, R1, by have := hk.out; exact (show ln - (j + 1) + (j + 1) = ln by omega), by go_num, rfl, ⟨H1.out.drop (fun p hp => List.mem_cons_of_mem _ hp), hI.out.2.1, HR1.out.2, hI.out.2.2.2.1, by have := hI.out.2.2.2.2.1; omega, by rw [HS.out]; have := hI.out.2.2.2.2.2; omega⟩⟩
    · obtain rfl : j = ln := by omega
      have hlow6 : ∀ i : Nat, wr.heap.size ≤ i → 0 < nD dv * 64 → ∀ a, A6 = some a → a.block < i := fun i hi h0 a e => by
        obtain ⟨k, o, e2, hm⟩ := hI.out.2.1 h0
        have := hI.out.1.lt _ hm
        rw [e2] at e
        injection e with e
        rw [← e]
        exact Nat.lt_of_lt_of_le this hi
      have HL6 := Aside0.mk hlow6
      have HBL := Aside0.mk hI.out.1.bel
      have HB6 := Aside0.mk hI.out.2.2.1
      have OK := Aside0.mk hI.out.1.ok
      have HOK1 := Aside0.mk (crashD_ok hI.out.1.ok [true])
      have HOK0 := Aside0.mk (crashD_ok hI.out.1.ok [])
      have HC1 := Aside0.mk (show (crashD dv [true]).l = seenL dv.l dv.row from crL_all _ _ 0)
      have HC0 := Aside0.mk (show (crashD dv []).l = dv.l from crL_none _ _ 0)
      obtain ⟨A, c', B, e, hp⟩ := hI.out.1
      have HD := Aside0.mk hp.dm
      clear hp hlow6
      have E1X := Aside0.mk (show (seenL dv.l dv.row == seenL dv.l dv.row) = true by simp)
      have E2X := Aside0.mk (show (dv.l == dv.l) = true by simp)
      go_upto_region 19 with (first
        | (go_at_call 11; refine (image_any _ g A _ c' B _ e dv w2 H2.out.2.1 OK.out).mono ?_; rintro e1 w3 ⟨A13, c13, rfl, hO, hB⟩; (have H3 := Aside0.mk (And.intro hO hB)); (have H4 := Aside0.mk (show DM (w3.alloc (.cells #[.bool true] 4)) wr.heap.size wr.heap.size Aa (nD dv) ca Ba dv.row.length ea dv from (H2.out.2.2.1.below hB).below ((Below.refl _ w3).alloc (Nat.le_refl _) _))); (have K4 := Aside0.mk (show ∀ ad : Addr, some (⟨w3.heap.size, 0, none⟩ : Addr) = some ad → 0 < 1 → ad.block ≠ wr.heap.size ∧ Aa ≠ some ⟨ad.block, 0, none⟩ ∧ Ba ≠ some ⟨ad.block, 0, none⟩ from fun ad q _ => by injection q with q; rw [← q]; exact (H2.out.2.2.1.below hB).altA _ (Nat.le_refl _))); clear hO hB)
        | (go_at_call 21; refine (copy_any _ g A _ c' B _ e dv w1 H1.out.2.1).mono ?_; rintro e1 w2 ⟨rfl, Ab, cb, Bb, eb, hmb, hBb⟩; (have H2 := Aside0.mk (And.intro hmb (And.intro (H1.out.2.1.below hBb) (And.intro (H1.out.1.below hBb) hBb)))); clear hmb hBb)
        | (go_at_call 21; refine (copy_any _ g A _ c' B _ e dv wr HD.out).mono ?_; rintro e1 w1 ⟨rfl, Aa, ca, Ba, ea, hma, hBa⟩; (have H1 := Aside0.mk (And.intro hma (And.intro (HD.out.below hBa) hBa))); clear hma hBa))
      obtain ⟨w4, hw4⟩ : ∃ X, w3.alloc (.cells #[.bool true] 4) = X := ⟨_, rfl⟩
      -- where the blocks lie
      replace hw4 := Aside0.mk hw4
      have hB4 : Below w3.heap.size w3 w4 := by rw [← hw4.out]; exact (Below.refl _ w3).alloc (Nat.le_refl _) _
      have S1 : wr.heap.size ≤ w1.heap.size := H1.out.2.2.size
      have S2 : w1.heap.size ≤ w2.heap.size := H2.out.2.2.2.size
      have hd4 : DM w4 w.heap.size g A (nD dv) c' B dv.row.length e dv := (H2.out.2.1.below H3.out.2).below hB4
      have hb4 : DM w4 w1.heap.size w1.heap.size Ab (nD dv) cb Bb dv.row.length eb dv := (H2.out.1.below H3.out.2).below hB4
      have hs4 : Bs w4 A13 (nD dv * 64) c13 (seenL dv.l dv.row) := H3.out.1.bs.below hB4
      have hbel2 : Below w.heap.size w w2 := below_then (below_then HBL.out HBL.out.size H1.out.2.2) (Nat.le_trans HBL.out.size H1.out.2.2.size) H2.out.2.2.2
      have hbel4 : Below w.heap.size w w4 := below_then (below_then hbel2 hbel2.size H3.out.2) (Nat.le_trans hbel2.size H3.out.2.size) hB4
      have h64 : Bs w4 A6 (nD dv * 64) c6 dv.l := (((HB6.out.below H1.out.2.2).below H2.out.2.2.2).below H3.out.2).below hB4
      have pa : ∀ i : Nat, i < wr.heap.size → Apt wr.heap.size Aa Ba i := fun i hi => H1.out.1.low i hi
      have pa2 : ∀ i : Nat, w1.heap.size ≤ i → Apt wr.heap.size Aa Ba i := fun i hi => H1.out.1.altA i hi
      have pb : ∀ i : Nat, i < w1.heap.size → Apt w1.heap.size Ab Bb i := fun i hi => H2.out.1.low i hi
      have pb2 : ∀ i : Nat, w2.heap.size ≤ i → Apt w1.heap.size Ab Bb i := fun i hi => H2.out.1.altA i hi
      have dlt := HD.out.hi
      have alt := H1.out.1.hi
      have h13 : ∀ a, A13 = some a → 0 < nD dv * 64 → w2.heap.size ≤ a.block := fun a q h0 => by
        obtain ⟨i, q2, h1, _⟩ := H3.out.1.head h0
        rw [q] at q2
        injection q2 with q2
        rw [q2]
        exact h1
      have HP := Aside0.mk (And.intro hd4 (And.intro hb4 (And.intro hs4 (And.intro hbel4 h64))))
      have HA := Aside0.mk (And.intro pa (And.intro pa2 (And.intro pb (And.intro pb2 (And.intro dlt (And.intro alt (And.intro h13 (And.intro S1 S2))))))))
      have OK1 := Aside0.mk (show (crashD dv [true]).ok (nD dv) by have h1 := HOK1.out.1; rw [HOK1.out.2] at h1; exact h1)
      have OK0 := Aside0.mk (show (crashD dv []).ok (nD dv) by have h1 := HOK0.out.1; rw [HOK0.out.2] at h1; exact h1)
      clear hd4 hb4 hs4 hbel4 h64 pa pa2 pb pb2 dlt alt h13 S1 S2 hbel2 hB4
      go_upto_region 20 with (go_at_call 14; refine (crash_any _ wr.heap.size Aa _ ca Ba _ ea dv _ 1 1 [true] _ H4.out OK.out (rb_lit w3 _ rfl _ _ 1 [true] rfl rfl (by omega)) K4.out).mono ?_; rintro e1 w5 ⟨rfl, hm5, hf5⟩; (have H5 := Aside0.mk (And.intro hm5 hf5)); clear hm5 hf5)
      have hm5 : DM w5 wr.heap.size wr.heap.size Aa (nD dv) ca none 0 0 (crashD dv [true]) := H5.out.1
      have hf5 : Fr wr.heap.size Aa Ba w4 w5 := by rw [← hw4.out]; exact H5.out.2
      obtain ⟨hd4, hb4, hs4, hbel4, h64⟩ := HP.out
      obtain ⟨pa, pa2, pb, pb2, dlt, alt, h13, S1, S2⟩ := HA.out
      have hd5 : DM w5 w.heap.size g A (nD dv) c' B dv.row.length e dv := hd4.fr hf5 (pa _ dlt.1) (fun k q => pa _ (dlt.2.1 k q)) (fun k q => pa _ (dlt.2.2 k q))
      have hb5 : DM w5 w1.heap.size w1.heap.size Ab (nD dv) cb Bb dv.row.length eb dv := hb4.fr hf5 (pa2 _ (Nat.le_refl _)) (fun k q => pa2 _ (hb4.sl.lo k q)) (fun k q => pa2 _ (hb4.sr.lo k q))
      have hs5 : Bs w5 A13 (nD dv * 64) c13 (seenL dv.l dv.row) := hs4.fr hf5 (fun h0 a q => pa2 _ (Nat.le_trans S2 (h13 a q h0)))
      have h65 : Bs w5 A6 (nD dv * 64) c6 dv.l := h64.fr hf5 (fun h0 a q => pa _ (HL6.out _ (Nat.le_refl _) h0 a q))
      have hbel5 : Below w.heap.size w w5 := hf5.below hbel4 (Nat.le_trans HBL.out.size (Nat.le_refl _)) (fun k q => Nat.le_trans HBL.out.size (hm5.sl.lo k q)) (fun k q => Nat.le_trans HBL.out.size (H1.out.1.sr.lo k q)) hbel4.size
      have HQ := Aside0.mk (And.intro hd5 (And.intro hm5 (And.intro hs5 (And.intro hbel5 (And.intro h65 hb5)))))
      clear hd4 hb4 hs4 hbel4 h64 pa pa2 pb pb2 dlt alt h13 S1 S2 hm5 hf5 hd5 hb5 hs5 h65 hbel5
      go_upto_region 21 with (go_at_call 14; refine (crash_any _ w1.heap.size Ab _ cb Bb _ eb dv none 0 0 [] w5 HQ.out.2.2.2.2.2 OK.out ⟨rfl, Nat.le_refl _, by omega, by omega, fun h => absurd h (by omega)⟩ (fun _ q _ => by cases q)).mono ?_; rintro e1 w6 ⟨rfl, hm6, hf6⟩; (have H6 := Aside0.mk (And.intro hm6 hf6)); clear hm6 hf6)
      have hm6 : DM w6 w1.heap.size w1.heap.size Ab (nD dv) cb none 0 0 (crashD dv []) := H6.out.1
      have hf6 := H6.out.2
      obtain ⟨hd5, hm5, hs5, hbel5, h65, hb5⟩ := HQ.out
      obtain ⟨pa, pa2, pb, pb2, dlt, alt, h13, S1, S2⟩ := HA.out
      have hd6 : DM w6 w.heap.size g A (nD dv) c' B dv.row.length e dv := hd5.fr hf6 (pb _ (Nat.lt_of_lt_of_le dlt.1 S1)) (fun k q => pb _ (Nat.lt_of_lt_of_le (dlt.2.1 k q) S1)) (fun k q => pb _ (Nat.lt_of_lt_of_le (dlt.2.2 k q) S1))
      have ha6 : DM w6 wr.heap.size wr.heap.size Aa (nD dv) ca none 0 0 (crashD dv [true]) := hm5.fr hf6 (pb _ alt.1) (fun k q => pb _ (alt.2.1 k q)) (fun k q => (by cases q))
      have hs6 : Bs w6 A13 (nD dv * 64) c13 (seenL dv.l dv.row) := hs5.fr hf6 (fun h0 a q => pb2 _ (h13 a q h0))
      have h66 : Bs w6 A6 (nD dv * 64) c6 dv.l := h65.fr hf6 (fun h0 a q => pb _ (Nat.lt_of_lt_of_le (HL6.out _ (Nat.le_refl _) h0 a q) S1))
      have hbel6 : Below w.heap.size w w6 := hf6.below hbel5 (Nat.le_trans HBL.out.size S1) (fun k q => Nat.le_trans HBL.out.size (Nat.le_trans S1 (hm6.sl.lo k q))) (fun k q => Nat.le_trans HBL.out.size (Nat.le_trans S1 (hb5.sr.lo k q))) hbel5.size
      have HQ6 := Aside0.mk (And.intro hd6 (And.intro hm6 (And.intro ha6 (And.intro hbel6 (And.intro hs6 h66)))))
      clear hd5 hm5 hs5 hbel5 h65 hb5 pa pa2 pb pb2 dlt alt h13 S1 S2 hm6 hf6 hd6 ha6 hs6 h66 hbel6
      go_wp2_with (first
        | (go_at_call 8; refine (aliveD_any _).mono ?_; rintro e w7 ⟨rfl, hB⟩; (have H7 := Aside0.mk (And.intro (HQ6.out.1.below hB) (And.intro (HQ6.out.2.1.below hB) (And.intro (HQ6.out.2.2.1.below hB) (And.intro (below_then HQ6.out.2.2.2.1 HQ6.out.2.2.2.1.size hB) (And.intro (HQ6.out.2.2.2.2.1.below hB) (HQ6.out.2.2.2.2.2.below hB))))))); clear hB)
        | (go_at_call 15; refine (equal8_any _ _ _ _ _ _ _ _ w10 H10.out.1 H10.out.2.1).mono ?_; rintro e w11 ⟨rfl, rfl⟩; rw [E1X.out])
        | (go_at_call 15; refine (equal8_any _ _ _ _ _ _ _ _ w9 H9b.out.1 H9b.out.2.1).mono ?_; rintro e w11 ⟨rfl, rfl⟩; rw [E2X.out])
        | (go_at_call 15; refine (equal8_any _ _ _ _ _ _ _ _ w8 H8b.out.1 H8b.out.2).mono ?_; rintro e w11 ⟨rfl, rfl⟩; rw [E1X.out])
        | (go_at_call 20; refine (pending_any _ wr.heap.size Aa _ ca none _ 0 (crashD dv [true]) w9 H9b.out.2.2).mono ?_; rintro e w11 ⟨rfl, rfl⟩)
        | (go_at_call 11; refine (image_any _ g A _ c' B _ e dv w9 H9.out.1 OK.out).mono ?_; rintro e1 w10 ⟨A10, c10, rfl, hO, hB⟩; (have H10 := Aside0.mk (And.intro hO.bs (And.intro (H9.out.2.2.below hB) (below_then H9.out.2.1 H9.out.2.1.size hB)))); clear hO hB)
        | (go_at_call 11; refine (image_any _ w1.heap.size Ab _ cb none _ 0 (crashD dv []) w8 H8.out.2.1 OK0.out).mono ?_; rintro e1 w9 ⟨A9, c9, rfl, hO, hB⟩; rw [HC0.out] at hO; (have H9 := Aside0.mk (And.intro (H8.out.1.below hB) (And.intro (below_then H8.out.2.2.1 H8.out.2.2.1.size hB) (H8.out.2.2.2.1.below hB)))); (have H9b := Aside0.mk (And.intro (show Bs w9 A9 (nD dv * 64) c9 dv.l from hO.bs) (And.intro (H8.out.2.2.2.2.1.below hB) (H8.out.2.2.2.2.2.below hB)))); clear hO hB)
        | (go_at_call 11; refine (image_any _ wr.heap.size Aa _ ca none _ 0 (crashD dv [true]) w7 H7.out.2.2.1 OK1.out).mono ?_; rintro e1 w8 ⟨A8, c8, rfl, hO, hB⟩; rw [HC1.out] at hO; (have H8 := Aside0.mk (And.intro (H7.out.1.below hB) (And.intro (H7.out.2.1.below hB) (And.intro (below_then H7.out.2.2.2.1 H7.out.2.2.2.1.size hB) (And.intro (H7.out.2.2.2.2.1.below hB) (And.intro (H7.out.2.2.2.2.2.below hB) (H7.out.2.2.1.below hB))))))); (have H8b := Aside0.mk (And.intro (show Bs w8 A8 (nD dv * 64) c8 (seenL dv.l dv.row) from hO.bs) (H7.out.2.2.2.2.1.below hB))); clear hO hB))
      go_ret
      exact ⟨rfl, H10.out.2.2⟩
end Go.Proofs.Ytcegphnhohpegaa
