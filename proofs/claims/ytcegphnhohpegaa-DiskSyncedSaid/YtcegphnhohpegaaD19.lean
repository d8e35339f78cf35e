/- The walk of the law DiskPicks. -/
import Derived.Test.YtcegphnhohpegaaD18
set_option linter.unusedVariables false
set_option linter.unusedSimpArgs false
namespace Go.Proofs.Ytcegphnhohpegaa
open Go.RowKit

theorem WS1.start {w : World} {g n c : Nat} {dv : DV} {A : Option Addr} {xs : List UInt8} {W W1 : World} (h : DH w g [] dv W) (hB : Below W.heap.size W W1) (hO : Ow W1 W.heap.size A n c xs) : WS1 w g dv A n c xs [] W1 := by
  have hb := hO.bs
  refine ⟨hO.len, ⟨hb.le, hb.cap, hb.lim⟩, fun _ => h.step hB, fun h0 => ?_⟩
  obtain ⟨i, o, e, hi, hh, _⟩ := h.ow hB hO h0
  exact ⟨i, o, e, Nat.le_trans h.bel.size hi, hO.mono h.bel.size, hh, fun p hp => by cases hp⟩
theorem write_none {d : DV} (h : KI d) {a : Int} {b : List UInt8} (hE : ¬ writeE d a b = 0) : writeD d a b = d := by
  unfold writeD
  rw [if_neg]
  intro q
  apply hE
  unfold writeE
  rw [if_pos q, if_neg (by rw [h.fu]; decide)]
theorem write_some {d : DV} (h : KI d) {a : Int} {b : List UInt8} (hE : writeE d a b = 0) : wrE d (nD d) a b.length = 0 ∧ (writeD d a b).row = d.row ++ segs a.toNat b (b.length / 64) := by
  have hw : wrE d (nD d) a b.length = 0 := by
    unfold writeE at hE
    split at hE
    · rename_i q; exact q
    · exact hE
  refine ⟨hw, ?_⟩
  unfold writeD
  rw [if_pos hw]
  rfl
set_option maxHeartbeats 16000000 in
set_option maxRecDepth 100000 in
theorem diskPicks_walk (A : Option Addr) (n c : Nat) (xs : List UInt8) (L : Option Addr) (ln lc : Nat) (l : List OpW) (K : Option Addr) (kn kc : Nat) (ks : List Bool) (w : World) (hx : Bs w A n c xs) (hl : OpsD w L ln lc l) (hk : Rb w K kn kc ks) :
    Calls Try.prog 5 #[.slice A n c, .slice L ln lc, .slice K kn kc] w fun e w' => e = .returned (.bool true) ∧ Below w.heap.size w w' := by
  have HX := Aside0.mk hx
  have HL := Aside0.mk hl
  have HKR := Aside0.mk hk
  have hxl := hx.lim
  have hll := hl.lim
  have hkl := hk.lim
  clear hx hl hk
  by_cases g0 : FewQ ln l
  rotate_left
  · go_enter Try.func5, Try.ntmps5
    go_wp2_with (first
      | (go_at_call 7; refine (few_no L ln lc l w HL.out g0).mono ?_; rintro e w1 ⟨rfl, hB1⟩)
      | (go_at_call 8; refine (aliveD_any _).mono ?_; rintro e w2 ⟨rfl, hB2⟩))
    go_ret
    exact ⟨rfl, below_then hB1 hB1.size hB2⟩
  have G0 := Aside0.mk g0
  clear g0
  by_cases g1 : 3000 < n
  · have d1 : decide (3000 < (n : Int)) = true := decide_eq_true (by omega)
    have d1' : decide (3000 < n) = true := decide_eq_true g1
    clear g1
    go_enter Try.func5, Try.ntmps5
    go_wp2_with (first
      | (go_at_call 7; refine (few_yes L ln lc l w HL.out G0.out).mono ?_; rintro e w1 ⟨rfl, hB1⟩)
      | (go_at_call 8; refine (aliveD_any _).mono ?_; rintro e w2 ⟨rfl, hB2⟩))
    go_ret
    exact ⟨rfl, below_then hB1 hB1.size hB2⟩
  have d1 : decide (3000 < (n : Int)) = false := decide_eq_false (by omega)
  have d1' : decide (3000 < n) = false := decide_eq_false g1
  by_cases g2 : 200 < kn
  · have d2 : decide (200 < (kn : Int)) = true := decide_eq_true (by omega)
    have d2' : decide (200 < kn) = true := decide_eq_true g2
    clear g1 g2
    go_enter Try.func5, Try.ntmps5
    go_wp2_with (first
      | (go_at_call 7; refine (few_yes L ln lc l w HL.out G0.out).mono ?_; rintro e w1 ⟨rfl, hB1⟩)
      | (go_at_call 8; refine (aliveD_any _).mono ?_; rintro e w2 ⟨rfl, hB2⟩))
    go_ret
    exact ⟨rfl, below_then hB1 hB1.size hB2⟩
  have d2 : decide (200 < (kn : Int)) = false := decide_eq_false (by omega)
  have d2' : decide (200 < kn) = false := decide_eq_false g2
  have hn6 := G0.out.n60
  obtain ⟨dv0, hdv0⟩ : ∃ d : DV, (⟨limI 64, loadL xs (cntL n (limI 64)), [], 0, -1, false⟩ : DV) = d := ⟨_, rfl⟩
  have HI0 := Aside0.mk (show KI dv0 ∧ dv0.ops ≤ 0 ∧ dv0.row.length ≤ 0 ∧ dv0.row = [] by
    rw [← hdv0]
    exact ⟨⟨Int.le_refl _, rfl, rfl⟩, Int.le_refl _, Nat.le_refl _, rfl⟩)
  go_enter Try.func5, Try.ntmps5
  go_wp2_with (first
    | (go_at_call 7; refine (few_yes L ln lc l w HL.out G0.out).mono ?_; rintro e w1 ⟨rfl, hB1⟩)
    | (go_at_call 9; refine (load_h (w0 := w) A n c xs 64 w1 (HX.out.below hB1) (by omega) hB1).mono ?_; rintro e w2 ⟨g, rfl, hH, _⟩; rw [hdv0] at hH; (have H2 := Aside0.mk hH); clear hH)
    | (go_at_call 11; refine (image_h H2.out).mono ?_; rintro e w3 ⟨A8, c8, rfl, hO, hB⟩; rw [HI0.out.2.2.2] at hO; (have H3 := Aside0.mk (WS1.start H2.out hB hO)); (have HN8 := Aside0.mk H2.out.ok.len); clear hO hB))
  obtain ⟨l0, hl0⟩ : ∃ x, dv0.l = x := ⟨_, rfl⟩
  obtain ⟨n8, hn8⟩ : ∃ x, nD dv0 * 64 = x := ⟨_, rfl⟩
  rw [show seenL dv0.l [] = dv0.l from rfl] at H3
  rw [hl0] at H3 HN8
  rw [hn8] at H3 HN8 ⊢
  replace hn8 := Aside0.mk hn8
  replace hl0 := Aside0.mk hl0
  clear hdv0 g1 g2 d1 d1' d2 d2' H2
  go_loopg [9, 36] ln (fun gk v9 v wr => ∃ (j : Nat) (dv : DV), Aside (gk + j = ln) ∧ v = .int .i64 (j : Int) ∧ v9 = .int .i64 (dv.row.length : Int) ∧ Aside0 (WS1 w g dv A8 n8 c8 (crL ks 0 l0 dv.row) [] wr ∧ KI dv ∧ dv.l = l0 ∧ dv.ops ≤ (j : Int) ∧ dv.row.length ≤ totD l j))
  case atStart => exact ⟨0, dv0, rfl, rfl, by rw [HI0.out.2.2.2]; rfl, ⟨by rw [HI0.out.2.2.2]; exact H3.out, HI0.out.1, hl0.out, HI0.out.2.1, HI0.out.2.2.1⟩⟩
  clear H3 HI0 hB1
  case round =>
    obtain ⟨j, dv, hk, rfl, rfl, hI⟩ := hrel
    have hjb : j ≤ ln := by have := hk.out; omega
    by_cases hlt : j < ln
    · obtain ⟨ad, rfl, B, m, d, K', kn', kc', hop⟩ := HL.out.atN j hlt
      have HB0 := Aside0.mk (show Free w [] B m from Free.arg hop.row)
      have HRW := Aside0.mk hop.row
      replace hop := hop.below hI.out.1.any.bel
      have hto := totD_le l ln j hlt
      have htt := G0.out.tot
      obtain ⟨o, ho⟩ : ∃ o, l.getD j op0 = o := ⟨_, rfl⟩
      rw [ho] at hop hto HRW
      obtain ⟨c0, c1, c2, c3, c4, hrow, hkr, bk, ba, bm⟩ := hop
      have hjn : (j : Int) < (ln : Int) := by omega
      have hrl := hrow.len
      have hml := hrow.lim
      have HS := Aside0.mk (show totD l (j + 1) = totD l j + (o.b.length + o.keep.length) by show totD l j + _ = _; rw [ho])
      have HM := Aside0.mk (And.intro (show dv.row.length + m ≤ 1000000 by have := hI.out.2.2.2.2; omega) (And.intro hI.out.2.1.o0 (And.intro (show dv.ops ≤ 1000000 by have := hI.out.2.2.2.1; omega) (show dv.fuse ≤ 9223372036854775807 by rw [hI.out.2.1.fu]; omega))))
      have HMM := Aside0.mk (show m ≤ 8000 ∧ dv.row.length ≤ 8000 by have := hI.out.2.2.2.2; omega)
      obtain ⟨bx, hbx⟩ : ∃ b : Obj, Obj.cells #[.int .i64 o.k, .int .i64 o.at_, .int .i64 o.many, .slice B m d, .slice K' kn' kc'] 34 = b := ⟨_, rfl⟩
      have H1 := Aside0.mk (hI.out.1.lit bx)
      have HR1 := Aside0.mk (hrow.alloc bx)
      clear hto htt hrl ho hrow hkr
      go_upto_region 10 with fail
      obtain ⟨N, hN⟩ : ∃ N, wr.heap.size = N := ⟨_, rfl⟩
      obtain ⟨W1, hW1⟩ : ∃ W, wr.alloc bx = W := ⟨_, rfl⟩
      rw [hW1, hN] at H1
      rw [hW1] at HR1
      rw [hW1, hN]
      have hrow1 := H1.out.any.row List.mem_cons_self
      rw [← hbx] at hrow1
      obtain ⟨b0, b1, b2, b3, b4⟩ := row5_cells hrow1
      replace hbx := Aside0.mk hbx
      clear hW1 hN c0 c1 c2 c3 c4 hrow1
      by_cases q2 : o.k = 2
      rotate_left
      · obtain ⟨f2a, f2b, f2c, f2d⟩ := eq_no q2
        clear q2
        go_wp2_with fail
        go_roundg (ln - (j + 1))
        case measure => have := hk.out; omega
        case rel => exact ⟨j + 1, dv, by have := hk.out; exact (show ln - (j + 1) + (j + 1) = ln by omega), by go_num, rfl, ⟨H1.out.drop (fun p hp => by cases hp), hI.out.2.1, hI.out.2.2.1, by have := hI.out.2.2.2.1; omega, by rw [HS.out]; have := hI.out.2.2.2.2; omega⟩⟩
      obtain ⟨f2a, f2b, f2c, f2d⟩ := eq_yes q2
      clear q2
      by_cases hE : writeE dv o.at_ o.b = 0
      rotate_left
      · have HE := Aside0.mk (write_none hI.out.2.1 hE)
        obtain ⟨ev, hev⟩ : ∃ x, writeE dv o.at_ o.b = x := ⟨_, rfl⟩
        rw [hev] at hE
        obtain ⟨ea, eb, ec, ed⟩ := eq_no hE
        replace hev := Aside0.mk hev
        clear hE
        go_wp2_with (go_at_call 13; refine (H1.out.op (P := fun e => e = .returned (.int .i64 (writeE dv o.at_ o.b))) (fun R hs hd => write_h hd o.at_ B m d o.b HR1.out HB0.out.up HM.out.1 HM.out.2.1 HM.out.2.2.1 HM.out.2.2.2)).mono ?_; rintro e w4 ⟨rfl, hW⟩; rw [hev.out]; rw [HE.out] at hW; (have H4 := Aside0.mk hW); clear hW)
        go_roundg (ln - (j + 1))
        case measure => have := hk.out; omega
        case rel => exact ⟨j + 1, dv, by have := hk.out; exact (show ln - (j + 1) + (j + 1) = ln by omega), by go_num, rfl, ⟨H4.out.drop (fun p hp => by cases hp), hI.out.2.1, hI.out.2.2.1, by have := hI.out.2.2.2.1; omega, by rw [HS.out]; have := hI.out.2.2.2.2; omega⟩⟩
      have hws := write_some hI.out.2.1 hE
      obtain ⟨hwd, hw64, hwp, hwa, hwn⟩ := wrE_ok hws.1
      obtain ⟨q, hq⟩ : ∃ q, o.b.length / 64 = q := ⟨_, rfl⟩
      rw [hq] at hwn hws
      have hbm := HRW.out.len
      have HKW := Aside0.mk (hI.out.2.1.write o.at_ o.b)
      obtain ⟨a, ha⟩ : ∃ a : Nat, o.at_.toNat = a := ⟨_, rfl⟩
      have hai : o.at_ = (a : Int) := by omega
      rw [ha] at hws hwn
      have hnd8 : nD dv * 64 = n8 := by
        have h1 := hI.out.1.any.ok.len
        rw [hI.out.2.2.1, HN8.out] at h1
        exact h1.symm
      have haq : (a + q) * 64 ≤ n8 := by rw [← hnd8]; exact Nat.mul_le_mul_right 64 hwn
      have hmq : m = q * 64 := by omega
      have hq1 : 0 < q := by omega
      have HWS := Aside0.mk (And.intro hws.2 (And.intro haq (And.intro hmq (And.intro hai hE))))
      have hv : (m : Int) / 64 = (q : Int) := by omega
      obtain ⟨dv2, hdv2⟩ : ∃ x, writeD dv o.at_ o.b = x := ⟨_, rfl⟩
      have HDV2 := Aside0.mk hdv2
      have hlq := HMM.out
      obtain ⟨rl, hrl⟩ : ∃ x, dv.row.length = x := ⟨_, rfl⟩
      have HRL := Aside0.mk hrl
      rw [hrl] at hlq ⊢
      clear hE hws hwd hw64 hwp hwa hwn hbm ha hnd8 haq hdv2 hrl hai hmq
      have ea : ((0 : Int) == 0) = true := rfl
      go_wp2_with (go_at_call 13; refine (H1.out.op (P := fun e => e = .returned (.int .i64 (writeE dv o.at_ o.b))) (fun R hs hd => write_h hd o.at_ B m d o.b HR1.out HB0.out.up HM.out.1 HM.out.2.1 HM.out.2.2.1 HM.out.2.2.2)).mono ?_; rintro e w4 ⟨rfl, hW⟩; rw [HWS.out.2.2.2.2]; rw [HDV2.out] at hW; (have H4 := Aside0.mk hW); (have hrow4 := H4.out.any.row List.mem_cons_self); rw [← hbx.out] at hrow4; clear hW b0 b1 b2 b3 b4; (obtain ⟨b0, b1, b2, b3, b4⟩ := row5_cells hrow4); clear hrow4)
      have H40 := Aside0.mk (show WS1 w g dv2 A8 n8 c8 (crL ks 0 l0 (dv.row ++ segs a o.b 0)) [(N, bx)] w4 by rw [show dv.row ++ segs a o.b 0 = dv.row from List.append_nil _]; exact H4.out)
      clear H4 H1 f2a f2b f2c f2d b0 b1 b2 b3 b4
      go_loopg [9, 56] q (fun gk2 v9 v56 wr => ∃ i : Nat, Aside (gk2 + i = q) ∧ v56 = .int .i64 (i : Int) ∧ v9 = .int .i64 ((rl + i : Nat) : Int) ∧ Aside0 (WS1 w g dv2 A8 n8 c8 (crL ks 0 l0 (dv.row ++ segs a o.b i)) [(N, bx)] wr))
      case atStart => exact ⟨0, rfl, rfl, rfl, H40⟩
      clear H40
      case round =>
        obtain ⟨i, hk2, rfl, rfl, hJ⟩ := hrel
        have hiq : i ≤ q := by have := hk2.out; omega
        have hrow5 := hJ.out.any.row List.mem_cons_self
        rw [← hbx.out] at hrow5
        obtain ⟨b0, b1, b2, b3, b4⟩ := row5_cells hrow5
        clear hrow5
        obtain ⟨kk, hkk⟩ : ∃ kk, rl + i = kk := ⟨_, rfl⟩
        rw [hkk]
        have hkb : kk + 1 ≤ 100000 := by omega
        replace hkk := Aside0.mk hkk
        rcases Nat.lt_or_ge i q with hltq | hgeq
        · have e1 : decide ((i : Int) < (q : Int)) = true := decide_eq_true (by omega)
          have e1' : decide (i < q) = true := decide_eq_true hltq
          have hsn : crL ks 0 l0 (dv.row ++ segs a o.b (i + 1)) = (if 0 < ks.length ∧ ks.getD (kk % ks.length) false = true then putL (crL ks 0 l0 (dv.row ++ segs a o.b i)) ((o.b.drop (i * 64)).take 64) (64 * (a + i)) else crL ks 0 l0 (dv.row ++ segs a o.b i)) := by
            rw [show dv.row ++ segs a o.b (i + 1) = (dv.row ++ segs a o.b i) ++ [(a + i, (o.b.drop (i * 64)).take 64)] by rw [segs, List.append_assoc], crL_snoc, Nat.zero_add, List.length_append, segs_len, HRL.out, hkk.out]
          have HSN := Aside0.mk hsn
          clear hsn
          by_cases hk0 : kn = 0
          · have u1 : decide (0 < (kn : Int)) = false := decide_eq_false (by omega)
            have u1' : decide (0 < kn) = false := decide_eq_false (by omega)
            have HN0 := Aside0.mk (show ¬ (0 < ks.length ∧ ks.getD (kk % ks.length) false = true) from fun z => by have := z.1; rw [HKR.out.len] at this; omega)
            clear hk0
            go_wp2_with fail
            go_roundg (q - (i + 1))
            case measure => have := hk2.out; omega
            case rel => exact ⟨i + 1, by have := hk2.out; exact (show q - (i + 1) + (i + 1) = q by omega), by go_num, by have := hkk.out; rw [show rl + (i + 1) = kk + 1 by omega]; go_num, by rw [HSN.out, if_neg HN0.out]; exact hJ⟩
          · have u1 : decide (0 < (kn : Int)) = true := decide_eq_true (by omega)
            have u1' : decide (0 < kn) = true := decide_eq_true (by omega)
            have hmod : kk % kn < kn := Nat.mod_lt _ (by omega)
            have hRb := HKR.out.below hJ.out.any.bel
            obtain ⟨kd, rfl, hkx⟩ := hRb.cells (by omega)
            have hcell := hkx (kk % kn) hmod
            have hrem : ((kk : Int)).tmod (kn : Int) = ((kk % kn : Nat) : Int) := (Int.ofNat_tmod kk kn).symm
            have HK0 := Aside0.mk hk0
            clear hkx hRb hk0
            cases hb : ks.getD (kk % kn) false with
            | false =>
              rw [hb] at hcell
              have HN0 := Aside0.mk (show ¬ (0 < ks.length ∧ ks.getD (kk % ks.length) false = true) from fun z => by have := z.2; rw [HKR.out.len, hb] at this; cases this)
              clear hb
              go_wp2_with fail
              go_roundg (q - (i + 1))
              case measure => have := hk2.out; omega
              case rel => exact ⟨i + 1, by have := hk2.out; exact (show q - (i + 1) + (i + 1) = q by omega), by go_num, by have := hkk.out; rw [show rl + (i + 1) = kk + 1 by omega]; go_num, by rw [HSN.out, if_neg HN0.out]; exact hJ⟩
            | true =>
              rw [hb] at hcell
              have HN0 := Aside0.mk (show (0 < ks.length ∧ ks.getD (kk % ks.length) false = true) from ⟨by rw [HKR.out.len]; have := HK0.out; omega, by rw [HKR.out.len]; exact hb⟩)
              clear hb
              obtain ⟨hrw, haq, hmq, hai, _⟩ := HWS.out
              obtain ⟨sg, hsg⟩ : ∃ s, (o.b.drop (i * 64)).take 64 = s := ⟨_, rfl⟩
              have hbl := HRW.out.len
              have hs64 : sg.length = 64 := by rw [← hsg, List.length_take, List.length_drop]; omega
              have hcop := (hJ.out.step (below_drew (Below.refl _ wr))).copy (a := 64 * (a + i)) (ys := sg) (by omega) (by omega)
              obtain ⟨iw, cur, hA8, hcur, hcs, hWS2⟩ := hcop
              subst hA8
              have hbs := ((HRW.out.below hJ.out.any.bel).drop (i * 64) (by omega)).take 64 (by omega)
              rw [hsg] at hbs
              obtain ⟨ak, hak, hx⟩ := hbs.cells (by omega)
              have hsrc : ∀ (t : Nat) (v : Value), (u8v sg)[t]? = some v → wr.drew.cell? (ak.add t) = some v := fun t v hv => by
                have ht : t < sg.length := by
                  have := (List.getElem?_eq_some_iff.1 hv).1
                  rwa [u8v_length] at this
                rw [u8v_get sg t ht] at hv
                injection hv with hv
                rw [← hv]
                exact hx t (by omega)
              have hcap := hJ.out.cap
              have hbcap := HRW.out.le
              have t1 : ∀ W : World, (Instr.slice 22 (.slice (some ⟨iw, 0, none⟩) n8 c8) (some (.int .i64 ((o.at_ + (i : Int)) * 64))) none none).run Try.prog W = .ok (.slice (some ⟨iw, 64 * (a + i), none⟩) (n8 - 64 * (a + i)) (c8 - 64 * (a + i))) W := fun W => by
                rw [sl8_l W _ n8 c8 .i64 _ (by omega) (by omega), show ((o.at_ + (i : Int)) * 64).toNat = 64 * (a + i) by omega]
                unfold cutA
                rw [if_neg (by omega), Option.map_some, add_plain]
              have t2 : ∀ W : World, (Instr.slice 22 (.slice B m d) (some (.int .i64 ((i : Int) * 64))) (some (.int .i64 (((i : Int) + 1) * 64))) none).run Try.prog W = .ok (.slice (some ak) 64 (d - i * 64)) W := fun W => by
                rw [sl8_lh W B m d .i64 .i64 _ _ (by omega) (by omega) (by omega), show ((i : Int) * 64).toNat = i * 64 by omega, show (((i : Int) + 1) * 64).toNat - i * 64 = 64 by omega, hak]
              have w1' : IntKind.i64.wrap (o.at_ + (i : Int)) = o.at_ + (i : Int) := IntWalk.i64_in _ (by omega)
              have w2' : IntKind.i64.wrap ((o.at_ + (i : Int)) * 64) = (o.at_ + (i : Int)) * 64 := IntWalk.i64_in _ (by omega)
              have w3' : IntKind.i64.wrap ((i : Int) * 64) = (i : Int) * 64 := IntWalk.i64_in _ (by omega)
              have w4' : IntKind.i64.wrap ((i : Int) + 1) = (i : Int) + 1 := IntWalk.i64_in _ (by omega)
              have w5' : IntKind.i64.wrap (((i : Int) + 1) * 64) = ((i : Int) + 1) * 64 := IntWalk.i64_in _ (by omega)
              have C1 := Aside0.mk (show (u8v sg).length = Nat.min 64 (n8 - 64 * (a + i)) by rw [u8v_length, hs64]; exact (Nat.min_eq_left (by omega)).symm)
              have C2 := Aside0.mk hsrc
              have C3 := Aside0.mk (show 64 * (a + i) + (u8v sg).length ≤ cur.size by rw [u8v_length]; exact hcs)
              have C4 := Aside0.mk hcur
              have C5 := Aside0.mk hWS2
              have C6 := Aside0.mk (show (Try.prog.info? 5).map (·.size) = some 1 by kernel_rfl)
              have C7 := Aside0.mk hsg
              clear hsrc hcs hcur hWS2 hx hbs hak hsg hrw haq hmq hai hbl hcap hbcap
              go_upto_region 15 with fail
              have HS0 := Aside0.mk (show wr.drew.cell? ⟨N, 1, none⟩ = some (.int .i64 o.at_) ∧ wr.drew.cell? ⟨N, 3, none⟩ = some (.slice B m d) from ⟨b1, b3⟩)
              refine wp_region_M (fun j => !(j == 15)) (fun w' => w'.cell? ⟨N, 1, none⟩ = some (.int .i64 o.at_) ∧ w'.cell? ⟨N, 3, none⟩ = some (.slice B m d)) (by kernel_rfl) ?_
              refine wpAnyM_take (i := 0) (v := ?_) (by simp only [List.getElem?_toArray, List.getElem?_cons_succ, List.getElem?_cons_zero]; rfl) (by kernel_rfl) (by kernel_rfl) (by kernel_rfl) (by kernel_rfl) (by exact fun _ _ _ h => h) (Or.inl ⟨by rfl, ?_⟩) HS0.out ?_
              rotate_left
              · (intro w' hSw; (try dsimp only at hSw); go_simp; try with_reducible rfl)
              try simp only [Act.put, List.setIfInBounds_toArray, List.set_cons_zero, List.set_cons_succ]
              refine wpAnyM_take (i := 1) (v := ?_) (by simp only [List.getElem?_toArray, List.getElem?_cons_succ, List.getElem?_cons_zero]; rfl) (by kernel_rfl) (by kernel_rfl) (by kernel_rfl) (by kernel_rfl) (by exact fun _ _ _ h => h) (Or.inl ⟨by rfl, ?_⟩) HS0.out ?_
              rotate_left
              · (intro w' hSw; (try dsimp only at hSw); go_simp; try with_reducible rfl)
              try simp only [Act.put, List.setIfInBounds_toArray, List.set_cons_zero, List.set_cons_succ]
              refine wpAnyM_take (i := 2) (v := ?_) (by simp only [List.getElem?_toArray, List.getElem?_cons_succ, List.getElem?_cons_zero]; rfl) (by kernel_rfl) (by kernel_rfl) (by kernel_rfl) (by kernel_rfl) (by exact fun _ _ _ h => h) (Or.inl ⟨by rfl, ?_⟩) HS0.out ?_
              rotate_left
              · (intro w' hSw; (try dsimp only at hSw); go_simp; try with_reducible rfl)
              try simp only [Act.put, List.setIfInBounds_toArray, List.set_cons_zero, List.set_cons_succ]
              refine wpAnyM_take (i := 3) (v := ?_) (by simp only [List.getElem?_toArray, List.getElem?_cons_succ, List.getElem?_cons_zero]; rfl) (by kernel_rfl) (by kernel_rfl) (by kernel_rfl) (by kernel_rfl) (by exact fun _ _ _ h => h) (Or.inl ⟨by rfl, ?_⟩) HS0.out ?_
              rotate_left
              · (intro w' hSw; (try dsimp only at hSw); go_simp; try with_reducible rfl)
              try simp only [Act.put, List.setIfInBounds_toArray, List.set_cons_zero, List.set_cons_succ]
              refine wpAnyM_take (i := 4) (v := ?_) (by simp only [List.getElem?_toArray, List.getElem?_cons_succ, List.getElem?_cons_zero]; rfl) (by kernel_rfl) (by kernel_rfl) (by kernel_rfl) (by kernel_rfl) (by exact fun _ _ _ h => h) (Or.inl ⟨by rfl, ?_⟩) HS0.out ?_
              rotate_left
              · (intro w' hSw; (try dsimp only at hSw); go_simp; try with_reducible rfl)
              try simp only [Act.put, List.setIfInBounds_toArray, List.set_cons_zero, List.set_cons_succ]
              refine wpAnyM_take (i := 5) (v := ?_) (by simp only [List.getElem?_toArray, List.getElem?_cons_succ, List.getElem?_cons_zero]; rfl) (by kernel_rfl) (by kernel_rfl) (by kernel_rfl) (by kernel_rfl) (by exact fun _ _ _ h => h) (Or.inl ⟨by rfl, ?_⟩) HS0.out ?_
              rotate_left
              · (intro w' hSw; (try dsimp only at hSw); go_simp; try with_reducible rfl)
              try simp only [Act.put, List.setIfInBounds_toArray, List.set_cons_zero, List.set_cons_succ]
              refine wpAnyM_take (i := 6) (v := ?_) (by simp only [List.getElem?_toArray, List.getElem?_cons_succ, List.getElem?_cons_zero]; rfl) (by kernel_rfl) (by kernel_rfl) (by kernel_rfl) (by kernel_rfl) (by exact fun _ _ _ h => h) (Or.inl ⟨by rfl, ?_⟩) HS0.out ?_
              rotate_left
              · (intro w' hSw; (try dsimp only at hSw); go_simp; try with_reducible rfl)
              try simp only [Act.put, List.setIfInBounds_toArray, List.set_cons_zero, List.set_cons_succ]
              refine wpAnyM_take (i := 7) (v := ?_) (by simp only [List.getElem?_toArray, List.getElem?_cons_succ, List.getElem?_cons_zero]; rfl) (by kernel_rfl) (by kernel_rfl) (by kernel_rfl) (by kernel_rfl) (by exact fun _ _ _ h => h) (Or.inl ⟨by rfl, ?_⟩) HS0.out ?_
              rotate_left
              · (intro w' hSw; (try dsimp only at hSw); go_simp; try with_reducible rfl)
              try simp only [Act.put, List.setIfInBounds_toArray, List.set_cons_zero, List.set_cons_succ]
              refine wpAnyM_take (i := 8) (v := ?_) (by simp only [List.getElem?_toArray, List.getElem?_cons_succ, List.getElem?_cons_zero]; rfl) (by kernel_rfl) (by kernel_rfl) (by kernel_rfl) (by kernel_rfl) (by exact fun _ _ _ h => h) (Or.inl ⟨by rfl, ?_⟩) HS0.out ?_
              rotate_left
              · (intro w' hSw; (try dsimp only at hSw); go_simp; try with_reducible rfl)
              try simp only [Act.put, List.setIfInBounds_toArray, List.set_cons_zero, List.set_cons_succ]
              refine wpAnyM_take (i := 9) (v := ?_) (by simp only [List.getElem?_toArray, List.getElem?_cons_succ, List.getElem?_cons_zero]; rfl) (by kernel_rfl) (by kernel_rfl) (by kernel_rfl) (by kernel_rfl) (by exact fun _ _ _ h => h) (Or.inl ⟨by rfl, ?_⟩) HS0.out ?_
              rotate_left
              · (intro w' hSw; (try dsimp only at hSw); go_simp; try with_reducible rfl)
              try simp only [Act.put, List.setIfInBounds_toArray, List.set_cons_zero, List.set_cons_succ]
              refine wpAnyM_take (i := 10) (v := ?_) (by simp only [List.getElem?_toArray, List.getElem?_cons_succ, List.getElem?_cons_zero]; rfl) (by kernel_rfl) (by kernel_rfl) (by kernel_rfl) (by kernel_rfl) (by exact fun _ _ _ h => h) (Or.inl ⟨by rfl, ?_⟩) HS0.out ?_
              rotate_left
              · (intro w' hSw; (try dsimp only at hSw); go_simp; try with_reducible rfl)
              try simp only [Act.put, List.setIfInBounds_toArray, List.set_cons_zero, List.set_cons_succ]
              refine wpAnyM_take (i := 11) (v := ?_) (by simp only [List.getElem?_toArray, List.getElem?_cons_succ, List.getElem?_cons_zero]; rfl) (by kernel_rfl) (by kernel_rfl) (by kernel_rfl) (by kernel_rfl) (by exact fun _ _ _ h => h) (Or.inl ⟨by rfl, ?_⟩) HS0.out ?_
              rotate_left
              · (intro w' hSw; (try dsimp only at hSw); go_simp; try with_reducible rfl)
              try simp only [Act.put, List.setIfInBounds_toArray, List.set_cons_zero, List.set_cons_succ]
              refine wpAnyM_take (i := 12) (v := ?_) (by simp only [List.getElem?_toArray, List.getElem?_cons_succ, List.getElem?_cons_zero]; rfl) (by kernel_rfl) (by kernel_rfl) (by kernel_rfl) (by kernel_rfl) (by exact fun _ _ _ h => h) (Or.inl ⟨by rfl, ?_⟩) HS0.out ?_
              rotate_left
              · (intro w' hSw; (try dsimp only at hSw); go_simp; try with_reducible rfl)
              try simp only [Act.put, List.setIfInBounds_toArray, List.set_cons_zero, List.set_cons_succ]
              refine wpAnyM_take (i := 13) (v := ?_) (by simp only [List.getElem?_toArray, List.getElem?_cons_succ, List.getElem?_cons_zero]; rfl) (by kernel_rfl) (by kernel_rfl) (by kernel_rfl) (by kernel_rfl) (by exact fun _ _ _ h => h) (Or.inl ⟨by rfl, ?_⟩) HS0.out ?_
              rotate_left
              · (intro w' hSw; (try dsimp only at hSw); go_simp; try with_reducible rfl)
              try simp only [Act.put, List.setIfInBounds_toArray, List.set_cons_zero, List.set_cons_succ]
              refine wpAnyM_take (i := 14) (v := ?_) (by simp only [List.getElem?_toArray, List.getElem?_cons_succ, List.getElem?_cons_zero]; rfl) (by kernel_rfl) (by kernel_rfl) (by kernel_rfl) (by kernel_rfl) (by exact fun _ _ _ h => h) (Or.inl ⟨by rfl, ?_⟩) HS0.out ?_
              rotate_left
              · (intro w' hSw; (try dsimp only at hSw); go_simp; try with_reducible rfl)
              try simp only [Act.put, List.setIfInBounds_toArray, List.set_cons_zero, List.set_cons_succ]
              refine wpAnyM_one (i := 15) (by kernel_rfl) (by simp only [List.getElem?_toArray, List.getElem?_cons_succ, List.getElem?_cons_zero]; rfl) ?_
              refine wpList_copy_own (by rfl) (.tmp 77) (.tmp 85) _ _ (by rfl) 5 Try.underlying22 C6.out iw (64 * (a + i)) (n8 - 64 * (a + i)) (c8 - 64 * (a + i)) ak 64 (d - i * 64) (by rfl) (by rfl) cur 5 C4.out (u8v sg) C1.out C2.out C3.out (u8v_one sg) ?_
              refine wpl_nil ⟨rfl, fun z => absurd z (by decide), ?_⟩
              try simp only [Act.put, List.setIfInBounds_toArray, List.set_cons_zero, List.set_cons_succ]
              refine wpAnyM_done (by kernel_rfl) ?_ _
              clear b0 b1 b2 b3 b4 t1 t2 w1' w2' w3' w4' w5'
              go_wp2_with fail
              go_roundg (q - (i + 1))
              case measure => have := hk2.out; omega
              case rel => exact ⟨i + 1, by have := hk2.out; exact (show q - (i + 1) + (i + 1) = q by omega), by go_num, by have := hkk.out; rw [show rl + (i + 1) = kk + 1 by omega]; go_num, by rw [HSN.out, if_pos HN0.out, C7.out]; exact C5⟩
        · obtain rfl : q = i := by omega
          have e1 : decide ((q : Int) < (q : Int)) = false := by simp
          clear b0 b1 b2 b3 b4
          go_wp2_with fail
          go_roundg (ln - (j + 1))
          case measure => have := hk.out; omega
          case rel =>
            have hr2 : dv2.row = dv.row ++ segs a o.b q := by rw [← HDV2.out]; exact HWS.out.1
            refine ⟨j + 1, dv2, by have := hk.out; exact (show ln - (j + 1) + (j + 1) = ln by omega), by go_num, ?_, ⟨?_, ?_, ?_, ?_, ?_⟩⟩
            · rw [hr2, List.length_append, segs_len, HRL.out, hkk.out]
            · rw [hr2]; exact hJ.out.drop (fun p hp => by cases hp)
            · rw [← HDV2.out]; exact HKW.out.1
            · rw [← HDV2.out, HKW.out.2.1]; exact hI.out.2.2.1
            · have h1 := HKW.out.2.2; rw [HDV2.out] at h1; have := hI.out.2.2.2.1; omega
            · rw [hr2, List.length_append, segs_len, HS.out]
              have := hI.out.2.2.2.2
              have h2 := HRW.out.len
              have h3 := HWS.out.2.2.1
              omega
    · obtain rfl : j = ln := by omega
      have hst : nD (crashD dv ks) * 64 = n8 := by
        have h1 := (crashD_ok hI.out.1.any.ok ks).2
        have h2 := hI.out.1.any.ok.len
        rw [hI.out.2.2.1, HN8.out] at h2
        rw [h1]
        exact h2.symm
      have HST := Aside0.mk hst
      have HLC := Aside0.mk (show (crashD dv ks).l = crL ks 0 l0 dv.row by show crL ks 0 dv.l dv.row = _; rw [hI.out.2.2.1])
      have E1X := Aside0.mk (show (crL ks 0 l0 dv.row == crL ks 0 l0 dv.row) = true by simp)
      obtain ⟨rl, hrl⟩ : ∃ x, dv.row.length = x := ⟨_, rfl⟩
      have r1 : ((rl : Int) == (rl : Int)) = true := by simp
      have HRL := Aside0.mk hrl
      have H0 := Aside0.mk hI.out.1
      rw [hrl]
      clear hst hrl
      go_wp2_with (first
        | (go_at_call 20; refine (pending_h H7.out.1.any).mono ?_; rintro e w8 ⟨rfl, rfl⟩; rw [show (crashD dv ks).row.length = 0 from rfl])
        | (go_at_call 20; refine (pending_h H0.out.any).mono ?_; rintro e w4 ⟨rfl, rfl⟩; rw [HRL.out])
        | (go_at_call 14; refine (H0.out.op (P := fun e => e = .returned (.tuple #[])) (fun R hs hd => crash_h hd K kn kc ks (HKR.out.below H0.out.any.bel) (Free.argb HKR.out))).mono ?_; rintro e w5 ⟨rfl, hW⟩; (have H5 := Aside0.mk hW); clear hW)
        | (go_at_call 8; refine (aliveD_any _).mono ?_; rintro e w6 ⟨rfl, hB⟩; (have H6 := Aside0.mk (H5.out.step hB)); clear hB)
        | (go_at_call 11; refine (image_h H6.out.any).mono ?_; rintro e w7 ⟨A7, c7, rfl, hO, hB⟩; rw [show seenL (crashD dv ks).l (crashD dv ks).row = (crashD dv ks).l from rfl, HLC.out] at hO; rw [HST.out] at hO; rw [HST.out]; (have H7 := Aside0.mk (And.intro (H6.out.step hB) hO.bs)); clear hO hB)
        | (go_at_call 15; refine (equal8_any _ _ _ _ _ _ _ _ _ H7.out.2 H7.out.1.bs).mono ?_; rintro e w8 ⟨rfl, rfl⟩; rw [E1X.out]))
      go_ret
      exact ⟨rfl, H7.out.1.any.bel⟩
end Go.Proofs.Ytcegphnhohpegaa
