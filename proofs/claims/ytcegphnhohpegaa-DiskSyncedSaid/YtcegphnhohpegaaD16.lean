/- The walk of the law DiskFuse. -/
import Derived.Test.YtcegphnhohpegaaD15
set_option linter.unusedVariables false
set_option linter.unusedSimpArgs false
namespace Go.Proofs.Ytcegphnhohpegaa
open Go.RowKit

/-- A slice whose row is held. -/
def InR (R : List (Nat × Obj)) (A : Option Addr) (n : Nat) : Prop := 0 < n → ∃ i o, A = some ⟨i, 0, none⟩ ∧ (i, o) ∈ R
theorem DH.own {w0 : World} {g : Nat} {R : List (Nat × Obj)} {d : DV} {W W1 : World} {A : Option Addr} {n c : Nat} {xs : List UInt8} (h : DH w0 g R d W) (hB : Below W.heap.size W W1) (hO : Ow W1 W.heap.size A n c xs) :
    ∃ R1, DH w0 g R1 d W1 ∧ InR R1 A n ∧ ∀ p ∈ R, p ∈ R1 := by
  rcases Nat.eq_zero_or_pos n with h0 | h0
  · exact ⟨R, h.step hB, fun q => absurd q (by omega), fun p hp => hp⟩
  · obtain ⟨i, o, e, _, hh, _⟩ := h.ow hB hO h0
    exact ⟨_, hh, fun _ => ⟨i, o, e, List.mem_cons_self⟩, fun p hp => List.mem_cons_of_mem _ hp⟩
theorem DH.same {w0 : World} {g g' : Nat} {R : List (Nat × Obj)} {d1 d2 : DV} {W1 W2 : World} {A : Option Addr} {n c : Nat} {xs : List UInt8} (h1 : DH w0 g R d1 W1) (h2 : DH w0 g' R d2 W2) (hi : InR R A n) (hb : Bs W1 A n c xs) : Bs W2 A n c xs :=
  hb.blk fun a e h0 => by
    obtain ⟨i, o, e2, hm⟩ := hi h0
    rw [e2] at e
    injection e with e
    subst e
    exact (h2.row hm).trans (h1.row hm).symm
theorem Free.arg {w : World} {R : List (Nat × Obj)} {A : Option Addr} {n c : Nat} {xs : List UInt8} (h : Bs w A n c xs) : Free w R A n := fun h0 a e => .inl (h.lt a e h0)
theorem Free.argb {w : World} {R : List (Nat × Obj)} {A : Option Addr} {n c : Nat} {xs : List Bool} (h : Rb w A n c xs) : Free w R A n := fun h0 a e => by
  obtain ⟨ad, e2, hc⟩ := h.cells h0
  have := World.block_lt_of_cell? w _ (hc 0 h0)
  rw [e] at e2
  injection e2 with e2
  rw [add_block, ← e2] at this
  exact .inl this
theorem Free.up {w : World} {R : List (Nat × Obj)} {A : Option Addr} {n : Nat} (h : Free w [] A n) : Free w R A n := fun h0 a e => (h h0 a e).imp id (fun ⟨o, q⟩ => by cases q)
/-- Where an armed disk stands. -/
structure FI (n : Int) (d : DV) : Prop where
  o0 : 0 ≤ d.ops
  fu : d.fuse ≤ 1000
  st : (n < 0 ∧ d.fuse = -1 ∧ d.down = false) ∨ (0 ≤ n ∧ d.down = false ∧ d.ops ≤ n ∧ d.fuse = n - d.ops) ∨ (0 ≤ n ∧ d.down = true ∧ n < d.ops)
theorem FI.op {n : Int} {d : DV} (h : FI n d) (hd : d.down = false) : FI n (opD d) ∧ (opD d).down = (d.fuse == 0) := by
  have h0 := h.o0
  have hf := h.fu
  refine ⟨⟨?_, ?_, ?_⟩, rfl⟩
  · show 0 ≤ d.ops + 1
    omega
  · show (if d.fuse - 1 < -1 then -1 else d.fuse - 1) ≤ 1000
    split <;> omega
  · show (n < 0 ∧ (if d.fuse - 1 < -1 then -1 else d.fuse - 1) = -1 ∧ (d.fuse == 0) = false) ∨ (0 ≤ n ∧ (d.fuse == 0) = false ∧ d.ops + 1 ≤ n ∧ (if d.fuse - 1 < -1 then -1 else d.fuse - 1) = n - (d.ops + 1)) ∨ (0 ≤ n ∧ (d.fuse == 0) = true ∧ n < d.ops + 1)
    rcases h.st with ⟨h1, h2, h3⟩ | ⟨h1, h2, h3, h4⟩ | ⟨h1, h2, h3⟩
    · exact .inl ⟨h1, by rw [h2]; rfl, by rw [h2]; rfl⟩
    · by_cases hz : d.fuse = 0
      · exact .inr (.inr ⟨h1, by rw [hz]; rfl, by omega⟩)
      · exact .inr (.inl ⟨h1, beq_eq_false_iff_ne.2 hz, by omega, by rw [if_neg (by omega)]; omega⟩)
    · rw [hd] at h2
      cases h2
theorem doesD_len (d : DV) (o : OpW) : (doesD d o).row.length ≤ d.row.length + o.b.length := by
  unfold doesD
  split
  · unfold growD; split <;> exact Nat.le_add_right _ _
  · split
    · exact Nat.le_add_right _ _
    · split
      · unfold writeD
        split
        · show (d.row ++ segs o.at_.toNat o.b (o.b.length / 64)).length ≤ _
          rw [List.length_append, segs_len]
          omega
        · exact Nat.le_add_right _ _
      · unfold syncD
        split
        · exact Nat.le_add_right _ _
        · split
          · exact Nat.le_add_right _ _
          · exact Nat.zero_le _
/-- What a call does to an armed disk. -/
theorem FI.step {n : Int} {d : DV} (h : FI n d) (o : OpW) : FI n (doesD d o) ∧ (d.down = true → doesE d o = 10 ∧ doesD d o = d) ∧ (d.down = false → ((doesE d o == 10) = (doesD d o).down)) ∧ (doesD d o).ops ≤ d.ops + 1 := by
  unfold doesD doesE
  by_cases k0 : o.k = 0
  · rw [if_pos k0, if_pos k0]
    by_cases hE : growE d o.at_ = 0
    · have hd : d.down = false := by
        cases hd : d.down with
        | false => rfl
        | true => rw [show growE d o.at_ = 10 from if_pos hd] at hE; exact absurd hE (by decide)
      rw [show growD d o.at_ = { d with l := d.l ++ List.replicate (64 * (o.at_.toNat - nD d)) 0 } from if_pos hE, hE]
      exact ⟨⟨h.o0, h.fu, h.st⟩, fun q => (by rw [hd] at q; cases q), fun _ => hd.symm, by show d.ops ≤ _; omega⟩
    · rw [show growD d o.at_ = d from if_neg hE]
      refine ⟨h, fun hd => ⟨if_pos hd, rfl⟩, fun hd => ?_, by omega⟩
      unfold growE at hE ⊢
      rw [hd, if_neg (by decide)] at hE ⊢
      split
      · rfl
      · rename_i hq
        rw [if_neg hq] at hE
        exact absurd rfl hE
  · rw [if_neg k0, if_neg k0]
    by_cases k1 : o.k = 1
    · rw [if_pos k1, if_pos k1]
      unfold readE
      refine ⟨h, fun hd => ⟨if_pos hd, rfl⟩, fun hd => ?_, by omega⟩
      rw [hd, if_neg (by decide)]
      split <;> rfl
    · rw [if_neg k1, if_neg k1]
      by_cases k2 : o.k = 2
      · rw [if_pos k2, if_pos k2]
        unfold writeD writeE
        by_cases hE : wrE d (nD d) o.at_ o.b.length = 0
        · rw [if_pos hE, if_pos hE]
          have hd := (wrE_ok hE).1
          obtain ⟨h1, h2⟩ := h.op hd
          refine ⟨⟨h1.o0, h1.fu, h1.st⟩, fun q => (by rw [hd] at q; cases q), fun _ => ?_, by show d.ops + 1 ≤ _; omega⟩
          show _ = (d.fuse == 0)
          by_cases hf : d.fuse = 0
          · rw [if_pos hf, hf]; rfl
          · rw [if_neg hf, beq_eq_false_iff_ne.2 hf]; rfl
        · rw [if_neg hE, if_neg hE]
          refine ⟨h, fun hd => ⟨if_pos hd, rfl⟩, fun hd => ?_, by omega⟩
          rw [hd]
          unfold wrE
          rw [hd, if_neg (by decide)]
          split
          · rfl
          · split <;> rfl
      · rw [if_neg k2, if_neg k2]
        unfold syncD syncE
        cases hd : d.down with
        | true => exact ⟨h, fun _ => ⟨rfl, rfl⟩, (fun q => by cases q), by simp only [if_true]; omega⟩
        | false =>
          obtain ⟨h1, h2⟩ := h.op hd
          simp only [Bool.false_eq_true, if_false]
          by_cases hf : d.fuse = 0
          · rw [if_pos hf, if_pos hf]
            exact ⟨h1, (fun q => by cases q), fun _ => by rw [h2, hf]; rfl, by show d.ops + 1 ≤ _; omega⟩
          · rw [if_neg hf, if_neg hf]
            exact ⟨⟨h1.o0, h1.fu, h1.st⟩, (fun q => by cases q), fun _ => by show _ = (opD d).down; rw [h2, beq_eq_false_iff_ne.2 hf]; rfl, by show d.ops + 1 ≤ _; omega⟩
theorem FI.eq {n : Int} {d : DV} (h : FI n d) : d.down = (decide (0 ≤ n) && decide (n < d.ops)) := by
  rcases h.st with ⟨h1, h2, h3⟩ | ⟨h1, h2, h3, h4⟩ | ⟨h1, h2, h3⟩
  · rw [h3, decide_eq_false (by omega)]; rfl
  · rw [h2, decide_eq_true h1, decide_eq_false (by omega)]; rfl
  · rw [h2, decide_eq_true h1, decide_eq_true h3]; rfl
set_option maxHeartbeats 8000000 in
set_option maxRecDepth 100000 in
theorem diskFuse_walk (A : Option Addr) (n c : Nat) (xs : List UInt8) (q : Int) (L : Option Addr) (ln lc : Nat) (l : List OpW) (w : World) (hx : Bs w A n c xs) (hq : -9223372036854775808 ≤ q ∧ q ≤ 9223372036854775807) (hl : OpsD w L ln lc l) :
    Calls Try.prog 4 #[.slice A n c, .int .i64 q, .slice L ln lc] w fun e w' => e = .returned (.bool true) ∧ Below w.heap.size w w' := by
  have HX := Aside0.mk hx
  have HL := Aside0.mk hl
  have hxl := hx.lim
  have hll := hl.lim
  clear hx hl
  by_cases g0 : FewQ ln l
  rotate_left
  · go_enter Try.func4, Try.ntmps4
    go_wp2_with (first
      | (go_at_call 7; refine (few_no L ln lc l w HL.out g0).mono ?_; rintro e w1 ⟨rfl, hB1⟩)
      | (go_at_call 8; refine (aliveD_any _).mono ?_; rintro e w2 ⟨rfl, hB2⟩))
    go_ret
    exact ⟨rfl, below_then hB1 hB1.size hB2⟩
  have G0 := Aside0.mk g0
  clear g0
  by_cases g1 : 3000 < n
  · have d1 : decide (3000 < (n : Int)) = true := decide_eq_true (by omega)
    have d1' : decide (3000 < n) = true := decide_eq_true g1
    clear g1
    go_enter Try.func4, Try.ntmps4
    go_wp2_with (first
      | (go_at_call 7; refine (few_yes L ln lc l w HL.out G0.out).mono ?_; rintro e w1 ⟨rfl, hB1⟩)
      | (go_at_call 8; refine (aliveD_any _).mono ?_; rintro e w2 ⟨rfl, hB2⟩))
    go_ret
    exact ⟨rfl, below_then hB1 hB1.size hB2⟩
  have d1 : decide (3000 < (n : Int)) = false := decide_eq_false (by omega)
  have d1' : decide (3000 < n) = false := decide_eq_false g1
  by_cases g2 : 1000 < q
  · have d2 : decide (1000 < q) = true := decide_eq_true g2
    clear g1 g2
    go_enter Try.func4, Try.ntmps4
    go_wp2_with (first
      | (go_at_call 7; refine (few_yes L ln lc l w HL.out G0.out).mono ?_; rintro e w1 ⟨rfl, hB1⟩)
      | (go_at_call 8; refine (aliveD_any _).mono ?_; rintro e w2 ⟨rfl, hB2⟩))
    go_ret
    exact ⟨rfl, below_then hB1 hB1.size hB2⟩
  have d2 : decide (1000 < q) = false := decide_eq_false g2
  have hn6 := G0.out.n60
  obtain ⟨dv0, hdv0⟩ : ∃ d : DV, (⟨limI 64, loadL xs (cntL n (limI 64)), [], 0, -1, false⟩ : DV) = d := ⟨_, rfl⟩
  obtain ⟨dv1, hdv1⟩ : ∃ d : DV, armD dv0 q = d := ⟨_, rfl⟩
  have HI0 := Aside0.mk (show FI q dv1 ∧ dv1.ops ≤ 0 ∧ dv1.row.length ≤ 0 by
    rw [← hdv1, ← hdv0]
    refine ⟨⟨Int.le_refl _, ?_, ?_⟩, Int.le_refl _, Nat.le_refl _⟩
    · show (if q < -1 then -1 else q) ≤ 1000
      split <;> omega
    · by_cases h : q < 0
      · exact .inl ⟨h, by show (if q < -1 then -1 else q) = -1; split <;> omega, rfl⟩
      · exact .inr (.inl ⟨by omega, rfl, by show (0 : Int) ≤ q; omega, by show (if q < -1 then -1 else q) = q - 0; rw [if_neg (by omega)]; omega⟩))
  go_enter Try.func4, Try.ntmps4
  go_wp2_with (first
    | (go_at_call 7; refine (few_yes L ln lc l w HL.out G0.out).mono ?_; rintro e w1 ⟨rfl, hB1⟩)
    | (go_at_call 9; refine (load_h (w0 := w) A n c xs 64 w1 (HX.out.below hB1) (by omega) hB1).mono ?_; rintro e w2 ⟨g, rfl, hH, _⟩; rw [hdv0] at hH; (have H2 := Aside0.mk hH); clear hH)
    | (go_at_call 16; refine (arm_h H2.out q).mono ?_; rintro e w3 ⟨rfl, hH⟩; rw [hdv1] at hH; (have H3 := Aside0.mk hH); clear hH))
  clear hdv0 hdv1 g1 g2 d1 d1' d2 H2
  go_loopg [37] ln (fun gk v wr => ∃ (j : Nat) (dv : DV), Aside (gk + j = ln) ∧ v = .int .i64 (j : Int) ∧ Aside0 (DH w g [] dv wr ∧ FI q dv ∧ dv.ops ≤ (j : Int) ∧ dv.row.length ≤ totD l j))
  case atStart => exact ⟨0, dv1, rfl, rfl, ⟨H3.out, HI0.out.1, HI0.out.2.1, HI0.out.2.2⟩⟩
  clear H3 HI0 hB1
  case round =>
    obtain ⟨j, dv, hk, rfl, hI⟩ := hrel
    have hjb : j ≤ ln := by have := hk.out; omega
    by_cases hlt : j < ln
    · obtain ⟨ad, rfl, B, m, d, K, kn, kc, hop⟩ := HL.out.atN j hlt
      have HB0 := Aside0.mk (show Free w [] B m from Free.arg hop.row)
      replace hop := hop.below hI.out.1.bel
      have hto := totD_le l ln j hlt
      have htt := G0.out.tot
      obtain ⟨o, ho⟩ : ∃ o, l.getD j op0 = o := ⟨_, rfl⟩
      rw [ho] at hop hto
      obtain ⟨c0, c1, c2, c3, c4, hrow, hkr, bk, ba, bm⟩ := hop
      have hjn : (j : Int) < (ln : Int) := by omega
      have hrl := hrow.len
      have HS := Aside0.mk (show totD l (j + 1) = totD l j + (o.b.length + o.keep.length) by show totD l j + _ = _; rw [ho])
      have HM := Aside0.mk (And.intro (show dv.row.length + m ≤ 1000000 by have := hI.out.2.2.2; omega) (And.intro hI.out.2.1.o0 (And.intro (show dv.ops ≤ 1000000 by have := hI.out.2.2.1; omega) (show dv.fuse ≤ 9223372036854775807 by have := hI.out.2.1.fu; omega))))
      obtain ⟨bx, hbx⟩ : ∃ b : Obj, Obj.cells #[.int .i64 o.k, .int .i64 o.at_, .int .i64 o.many, .slice B m d, .slice K kn kc] 34 = b := ⟨_, rfl⟩
      have H1 := Aside0.mk (hI.out.1.lit bx)
      have HR1 := Aside0.mk (hrow.alloc bx)
      clear hto htt hrl ho hrow hkr
      go_upto_region 10 with fail
      obtain ⟨N, hN⟩ : ∃ N, wr.heap.size = N := ⟨_, rfl⟩
      obtain ⟨W1, hW1⟩ : ∃ W, wr.alloc bx = W := ⟨_, rfl⟩
      rw [hW1, hN] at H1
      rw [hW1] at HR1
      rw [hW1, hN]
      have hrow1 := H1.out.row List.mem_cons_self
      rw [← hbx] at hrow1
      obtain ⟨b0, b1, b2, b3, b4⟩ := row5_cells hrow1
      replace hbx := Aside0.mk hbx
      clear hW1 hN c0 c1 c2 c3 c4 hrow1
      by_cases q0 : o.k < 0
      · have f0 : decide (o.k < 0) = true := decide_eq_true q0
        clear q0
        go_wp2_with fail
        go_roundg (ln - (j + 1))
        case measure => have := hk.out; omega
        case rel => exact ⟨j + 1, dv, by have := hk.out; exact (show ln - (j + 1) + (j + 1) = ln by omega), by go_num, ⟨H1.out.drop (fun p hp => by cases hp), hI.out.2.1, by have := hI.out.2.2.1; omega, by rw [HS.out]; have := hI.out.2.2.2; omega⟩⟩
      · have f0 : decide (o.k < 0) = false := decide_eq_false q0
        by_cases q1 : 3 < o.k
        · have f1 : decide (3 < o.k) = true := decide_eq_true q1
          clear q0 q1
          go_wp2_with fail
          go_roundg (ln - (j + 1))
          case measure => have := hk.out; omega
          case rel => exact ⟨j + 1, dv, by have := hk.out; exact (show ln - (j + 1) + (j + 1) = ln by omega), by go_num, ⟨H1.out.drop (fun p hp => by cases hp), hI.out.2.1, by have := hI.out.2.2.1; omega, by rw [HS.out]; have := hI.out.2.2.2; omega⟩⟩
        · have f1 : decide (3 < o.k) = false := decide_eq_false q1
          have hkk : 0 ≤ o.k ∧ o.k ≤ 3 := by omega
          have HK := Aside0.mk hkk
          clear q0 q1 hkk
          obtain ⟨s1, s2, s3, s4⟩ := hI.out.2.1.step o
          have HE := Aside0.mk (And.intro s1.eq (And.intro s2 (And.intro s3 (And.intro s1 s4))))
          clear s1 s2 s3 s4
          obtain ⟨dv2, hdv2⟩ : ∃ x, doesD dv o = x := ⟨_, rfl⟩
          obtain ⟨ev, hev⟩ : ∃ x, doesE dv o = x := ⟨_, rfl⟩
          rw [hdv2, hev] at HE
          obtain ⟨b, hb⟩ : ∃ b, dv.down = b := ⟨_, rfl⟩
          obtain ⟨ops, hops⟩ : ∃ b, dv.ops = b := ⟨_, rfl⟩
          go_upto_region 14 with (first
            | (go_at_call 11; refine (image_h H1.out).mono ?_; rintro e w4 ⟨A1, c1, rfl, hO, hB⟩; (obtain ⟨R1, hH, hin, hsub⟩ := H1.out.own hB hO); (have H4 := Aside0.mk (And.intro hH (And.intro hin (And.intro hO.bs (hsub _ List.mem_cons_self))))); (have HR4 := Aside0.mk (HR1.out.below hB)); clear hO hB hH hin hsub)
            | (go_at_call 17; refine (down_h H4.out.1).mono ?_; rintro e w5 ⟨rfl, rfl⟩; rw [hb])
            | (go_at_call 18; refine (ops_h H4.out.1).mono ?_; rintro e w5 ⟨rfl, rfl⟩; rw [hops]))
          have hrow4 := H4.out.1.row H4.out.2.2.2
          rw [← hbx.out] at hrow4
          clear b0 b1 b2 b3 b4
          obtain ⟨b0, b1, b2, b3, b4⟩ := row5_cells hrow4
          clear hrow4
          have hsame : (seenL dv.l dv.row == seenL dv.l dv.row) = true := by simp
          have HSM := Aside0.mk hsame
          clear hsame
          have RV := Aside0.mk (show DH w g [] dv2 = DH w g [] dv2 from rfl)
          have REL : Aside0 (∀ W, DH w g [] dv2 W → ∃ (j' : Nat) (dv' : DV), Aside (ln - (j + 1) + j' = ln) ∧ Value.int .i64 ((j : Int) + 1) = .int .i64 (j' : Int) ∧ Aside0 (DH w g [] dv' W ∧ FI q dv' ∧ dv'.ops ≤ (j' : Int) ∧ dv'.row.length ≤ totD l j')) := ⟨fun W hW => ⟨j + 1, dv2, by have := hk.out; exact (show ln - (j + 1) + (j + 1) = ln by omega), by go_num, ⟨hW, HE.out.2.2.2.1, by have := HE.out.2.2.2.2; have := hI.out.2.2.1; omega, by
            rw [HS.out]
            have h1 := doesD_len dv o
            rw [hdv2] at h1
            have := hI.out.2.2.2
            omega⟩⟩⟩
          have HDE := Aside0.mk (And.intro hdv2 hev)
          clear hdv2 hev RV
          cases b with
          | true =>
            obtain ⟨he10, hdd⟩ := HE.out.2.1 hb
            subst he10 hdd
            have HQ := HE.out.1
            rw [hb, hops] at HQ
            have hq0 : 0 ≤ q ∧ q < ops := by
              have := HQ.symm
              rw [Bool.and_eq_true] at this
              exact ⟨of_decide_eq_true this.1, of_decide_eq_true this.2⟩
            have r1 : decide (0 ≤ q) = true := decide_eq_true hq0.1
            have r2 : decide (q < ops) = true := decide_eq_true hq0.2
            have r3 : (ops == ops) = true := by simp
            have HDD := Aside0.mk (And.intro hb hops)
            clear HQ hq0 hb hops
            go_wp2_with (first
              | (go_at_call 19; refine (does_h H4.out.1 o B K m d kn kc HK.out HR4.out HB0.out.up HM.out.1 HM.out.2.1 HM.out.2.2.1 HM.out.2.2.2).mono ?_; rintro e w6 ⟨v, rfl, hH⟩; rw [HDE.out.1] at hH; rw [HDE.out.2]; (have H6 := Aside0.mk (And.intro hH (H4.out.1.same hH H4.out.2.1 H4.out.2.2.1))); clear hH)
              | (go_at_call 11; refine (image_h H6.out.1).mono ?_; rintro e w7 ⟨A2, c2, rfl, hO, hB⟩; (have H7 := Aside0.mk (And.intro (H6.out.1.step hB) (And.intro hO.bs (H6.out.2.below hB)))); clear hO hB)
              | (go_at_call 15; refine (equal8_any _ _ _ _ _ _ _ _ _ H7.out.2.2 H7.out.2.1).mono ?_; rintro e w8 ⟨rfl, rfl⟩; rw [HSM.out])
              | (go_at_call 18; refine (ops_h H7.out.1).mono ?_; rintro e w5 ⟨rfl, rfl⟩; rw [HDD.out.2])
              | (go_at_call 17; refine (down_h H7.out.1).mono ?_; rintro e w5 ⟨rfl, rfl⟩; rw [HDD.out.1]))
            go_roundg (ln - (j + 1))
            case measure => have := hk.out; omega
            case rel => exact REL.out _ (H7.out.1.drop (fun p hp => by cases hp))
          | false =>
            have h3 := HE.out.2.2.1 hb
            have h4 := HE.out.1
            obtain ⟨bn, hbn⟩ : ∃ b, dv2.down = b := ⟨_, rfl⟩
            obtain ⟨op2, hop2⟩ : ∃ b, dv2.ops = b := ⟨_, rfl⟩
            rw [hbn] at h3 h4
            rw [hop2] at h4
            have HBN := Aside0.mk (And.intro hbn hop2)
            clear hbn hop2
            by_cases r1 : 0 ≤ q
            · have f2 : decide (0 ≤ q) = true := decide_eq_true r1
              by_cases r2 : q < op2
              · have f3 : decide (q < op2) = true := decide_eq_true r2
                rw [f2, f3] at h4
                subst h4
                clear r1 r2 hb hops
                go_wp2_with (first
                  | (go_at_call 19; refine (does_h H4.out.1 o B K m d kn kc HK.out HR4.out HB0.out.up HM.out.1 HM.out.2.1 HM.out.2.2.1 HM.out.2.2.2).mono ?_; rintro e w6 ⟨v, rfl, hH⟩; rw [HDE.out.1] at hH; rw [HDE.out.2]; (have H6 := Aside0.mk hH); clear hH)
                  | (go_at_call 18; refine (ops_h H6.out).mono ?_; rintro e w5 ⟨rfl, rfl⟩; rw [HBN.out.2])
                  | (go_at_call 17; refine (down_h H6.out).mono ?_; rintro e w5 ⟨rfl, rfl⟩; rw [HBN.out.1]))
                go_roundg (ln - (j + 1))
                case measure => have := hk.out; omega
                case rel => exact REL.out _ (H6.out.drop (fun p hp => by cases hp))
              · have f3 : decide (q < op2) = false := decide_eq_false r2
                rw [f2, f3] at h4
                subst h4
                clear r1 r2 hb hops
                go_wp2_with (first
                  | (go_at_call 19; refine (does_h H4.out.1 o B K m d kn kc HK.out HR4.out HB0.out.up HM.out.1 HM.out.2.1 HM.out.2.2.1 HM.out.2.2.2).mono ?_; rintro e w6 ⟨v, rfl, hH⟩; rw [HDE.out.1] at hH; rw [HDE.out.2]; (have H6 := Aside0.mk hH); clear hH)
                  | (go_at_call 18; refine (ops_h H6.out).mono ?_; rintro e w5 ⟨rfl, rfl⟩; rw [HBN.out.2])
                  | (go_at_call 17; refine (down_h H6.out).mono ?_; rintro e w5 ⟨rfl, rfl⟩; rw [HBN.out.1]))
                go_roundg (ln - (j + 1))
                case measure => have := hk.out; omega
                case rel => exact REL.out _ (H6.out.drop (fun p hp => by cases hp))
            · have f2 : decide (0 ≤ q) = false := decide_eq_false r1
              rw [f2, Bool.false_and] at h4
              subst h4
              clear r1 hb hops
              go_wp2_with (first
                | (go_at_call 19; refine (does_h H4.out.1 o B K m d kn kc HK.out HR4.out HB0.out.up HM.out.1 HM.out.2.1 HM.out.2.2.1 HM.out.2.2.2).mono ?_; rintro e w6 ⟨v, rfl, hH⟩; rw [HDE.out.1] at hH; rw [HDE.out.2]; (have H6 := Aside0.mk hH); clear hH)
                | (go_at_call 18; refine (ops_h H6.out).mono ?_; rintro e w5 ⟨rfl, rfl⟩; rw [HBN.out.2])
                | (go_at_call 17; refine (down_h H6.out).mono ?_; rintro e w5 ⟨rfl, rfl⟩; rw [HBN.out.1]))
              go_roundg (ln - (j + 1))
              case measure => have := hk.out; omega
              case rel => exact REL.out _ (H6.out.drop (fun p hp => by cases hp))
    · obtain rfl : j = ln := by omega
      have HFF := Aside0.mk (hI.out.1)
      go_wp2_with (first
        | (go_at_call 14; refine (crash_h HFF.out none 0 0 [] ⟨rfl, Nat.le_refl _, by omega, by omega, fun h => absurd h (by omega)⟩ (fun h => absurd h (by omega))).mono ?_; rintro e w4 ⟨rfl, hH⟩; (have H4 := Aside0.mk hH); clear hH)
        | (go_at_call 8; refine (aliveD_any _).mono ?_; rintro e w5 ⟨rfl, hB5⟩; (have H5 := Aside0.mk (H4.out.step hB5)); clear hB5)
        | (go_at_call 17; refine (down_h H5.out).mono ?_; rintro e w6 ⟨rfl, rfl⟩; rw [show (crashD dv []).down = false from rfl])
        | (go_at_call 10; refine (sync_h H5.out hI.out.2.1.o0 (by have := hI.out.2.2.1; show dv.ops ≤ _; omega) (by show (-1 : Int) ≤ _; omega)).mono ?_; rintro e w7 ⟨rfl, hH⟩; rw [show syncE (crashD dv []) = 0 from rfl]; (have H7 := Aside0.mk hH); clear hH))
      go_ret
      exact ⟨rfl, H7.out.bel⟩
end Go.Proofs.Ytcegphnhohpegaa
