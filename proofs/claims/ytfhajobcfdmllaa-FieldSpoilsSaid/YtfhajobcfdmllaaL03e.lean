/- The walk of the law FieldSpoils. -/
import Derived.Test.YtfhajobcfdmllaaO3
import Derived.Deep.CutBlock
set_option linter.unusedVariables false
set_option linter.unusedSimpArgs false
namespace Go.Proofs.Ytfhajobcfdmllaa
open Go.RowKit

theorem putS_spoiled (a : Nat) (xs : List UInt8) (n wd : Int) : putS ⟨a, true, xs⟩ n wd = ⟨a, true, xs⟩ := by unfold putS; rw [if_neg (fun k => Bool.noConfusion k.2.1)]
theorem bytesS_spoiled (a : Nat) (xs ys : List UInt8) : bytesS ⟨a, true, xs⟩ ys = ⟨a, true, xs⟩ := by unfold bytesS; rw [if_neg (fun k => Bool.noConfusion (of_decide_eq_true k).1)]
theorem skipS_spoiled (a : Nat) (xs : List UInt8) (m : Int) : skipS ⟨a, true, xs⟩ m = ⟨a, true, xs⟩ := by
  have hr : roomB xs.length a true m = false := decide_eq_false (fun k => Bool.noConfusion k.1)
  unfold skipS skA
  dsimp only
  rw [hr]
  rfl
theorem skipS_over (a : Nat) (xs : List UInt8) (m : Int) (h : (xs.length : Int) - a < m) : skipS ⟨a, false, xs⟩ m = ⟨a, true, xs⟩ := by
  have hr : roomB xs.length a false m = false := decide_eq_false (fun k => by have := k.2.2; omega)
  unfold skipS skA
  dsimp only
  rw [hr]
  rfl
theorem get_spoiled (n a : Nat) (m : Int) (xs : List UInt8) : getV n a true m xs = 0 ∧ getOk n a true m xs = false ∧ getA n a true m xs = a := by
  have hk : getOk n a true m xs = false := decide_eq_false (fun k => Bool.noConfusion k.1)
  unfold getV getA
  rw [hk]
  exact ⟨rfl, rfl, rfl⟩

set_option maxHeartbeats 4000000 in
set_option maxRecDepth 100000 in
theorem fieldSpoils_walk (Ab : Option Addr) (nb cb : Nat) (bs : List UInt8) (A : Option Addr) (n c : Nat) (l : List OpV) (w : World) (hb : Bs w Ab nb cb bs) (hl : Ops w A n c l) :
    Calls Try.prog 6 #[.slice Ab nb cb, .slice A n c] w fun e w' => e = .returned (.bool true) ∧ Below w.heap.size w w' := by
  have HL := Aside0.mk hl
  have HB := Aside0.mk hb
  have hlim := hl.lim
  have hnb := hb.lim
  clear hl hb
  cases hf : decide (n ≤ 100 ∧ totW l n ≤ 4000) with
  | false =>
    go_enter Try.func6, Try.ntmps6
    go_wp2_with (first
      | (go_at_call 14; refine (few_any A n c l w HL.out).mono ?_; rintro e w1 ⟨rfl, hB1⟩; rw [hf])
      | (go_at_call 11; refine (alive03_any _).mono ?_; rintro e w2 ⟨rfl, hB2⟩))
    go_ret
    exact ⟨rfl, below_then hB1 hB1.size hB2⟩
  | true =>
    by_cases h4 : 4000 < nb
    · have f4 : decide (4000 < (nb : Int)) = true := decide_eq_true (by omega)
      go_enter Try.func6, Try.ntmps6
      go_wp2_with (first
        | (go_at_call 14; refine (few_any A n c l w HL.out).mono ?_; rintro e w1 ⟨rfl, hB1⟩; rw [hf])
        | (go_at_call 11; refine (alive03_any _).mono ?_; rintro e w2 ⟨rfl, hB2⟩))
      go_ret
      exact ⟨rfl, below_then hB1 hB1.size hB2⟩
    have f4 : decide (4000 < (nb : Int)) = false := decide_eq_false (by omega)
    have hnn : nwN (nb : Int) = nb := by unfold nwN; rw [if_pos (by omega)]; omega
    have hz : (List.replicate nb (0 : UInt8)).length = nb := List.length_replicate
    have HN := Aside0.mk (And.intro hnn hz)
    have HQ := Aside0.mk (show 0 ≤ (nb : Int) + 1 → 0 + ((nb : Int) + 1).toNat ≤ bs.length → False from fun _ h => by rw [HB.out.len] at h; omega)
    clear hnn hz
    go_enter Try.func6, Try.ntmps6
    go_wp2_with (first
      | (go_at_call 14; refine (few_any A n c l w HL.out).mono ?_; rintro e w1 ⟨rfl, hB1⟩; rw [hf])
      | (go_at_call 15; refine (newWriter_any nb w1).mono ?_; rintro e w2 ⟨g, g2, rfl, hg, hg2, hne, hgl, hc, hO, hB2⟩)
      | (go_at_call 26; refine (newReader_any Ab nb cb bs w2 ((HB.out.below hB1).below (hB2.mono (Nat.le_refl _)))).mono ?_; rintro e w3 ⟨gr, A1, c1, rfl, hgr, hne3, hc3, hO3, hB3⟩; rw [HN.out.1] at hc hO; (have hI := (show RI w g g2 nb gr A1 c1 ⟨0, false, List.replicate nb 0⟩ 0 false bs w3 from by
          have z1 := hB1.size
          have z2 := hB2.size
          have hxl : bs.length = nb := HB.out.len
          have hwr : Wr w2 w.heap.size g g2 nb ⟨0, false, List.replicate nb 0⟩ := ⟨by rw [HN.out.2]; exact hc, by rw [HN.out.2]; exact hO.mono z1, hne, by omega, by omega⟩
          have z3 := hwr.lt
          exact ⟨⟨hwr.below hB3, below_then (below_then hB1 z1 hB2) (by omega) hB3⟩, by rw [hxl]; exact hc3, by rw [hxl]; exact hO3.bs, by rw [hxl]; exact hne3, by omega, by omega, by omega, fun ad e h0 => by
            obtain ⟨k, e1, e2, _⟩ := hO3.head (by omega)
            rw [e1] at e
            injection e with e
            subst e
            exact ⟨(show k ≠ g by omega), (show k ≠ g2 by omega)⟩⟩)); (have HI := Aside0.mk hI); clear hI hc hO hB1 hB2 hB3 hO3 hc3 hne3 hgr hne hg hg2 hgl)
      | (go_at_call 21; first
          | ((with_reducible refine (skip_wr w.heap.size g g2 nb _ _ w3 HI.out.wi.wr).mono ?_); rintro e w4 ⟨rfl, hW4, hO4⟩; rw [skipS_over 0 (List.replicate nb 0) ((nb : Int) + 1) (by rw [HN.out.2]; omega)] at hW4; (have HJ := Aside0.mk (HI.out.writer hO4 hW4)); clear hW4 hO4)
          | ((with_reducible refine (skip_any gr _ _ _ _ _ _ _ w4 HJ.out.cur).mono ?_); rintro e w5 ⟨rfl, ho5, _, ⟨q1, hc5⟩ | ⟨q1, q2, q3, hc5⟩⟩ <;> (first | (have q4 := HQ.out q2 q3; exact q4.elim) | skip); (have HK := Aside0.mk (HJ.out.go ho5 hc5)); clear ho5 hc5 q1)))
    obtain ⟨zs, hzs⟩ : ∃ zs, List.replicate nb (0 : UInt8) = zs := ⟨_, rfl⟩
    rw [hzs] at HK
    clear HI HJ
    go_loopg [47] n (fun k v wr => ∃ j : Nat, Aside (k + j = n) ∧ v = .int .i64 (j : Int) ∧ Aside0 (RI w g g2 nb gr A1 c1 ⟨0, true, zs⟩ 0 true bs wr))
    case atStart => exact ⟨0, rfl, rfl, HK⟩
    case round =>
      obtain ⟨j, hk, rfl, hI⟩ := hrel
      have hjb : j ≤ n := by have := hk.out; omega
      by_cases hlt : j < n
      · obtain ⟨ad, rfl, B, m, d, hop⟩ := HL.out.atN j hlt
        have hy0 := hop.row.lt
        replace hop := hop.below hI.out.wi.bel
        obtain ⟨o, ho⟩ : ∃ o, l.getD j ⟨0, 0, 0, []⟩ = o := ⟨_, rfl⟩
        rw [ho] at hop
        obtain ⟨c0, c1', c2, c3, hrow, bk, bn, bw⟩ := hop
        have hjn : (j : Int) < (n : Int) := by omega
        have hI1 := hI.out.step ((Below.refl _ _).alloc (Nat.le_refl _) (.cells #[.int .i64 o.k, .int .i64 o.n, .int .i64 o.wd, .slice B m d] 33))
        have hbx := heap_alloc_new wr (.cells #[.int .i64 o.k, .int .i64 o.n, .int .i64 o.wd, .slice B m d] 33)
        have hy1 := hrow.alloc (.cells #[.int .i64 o.k, .int .i64 o.n, .int .i64 o.wd, .slice B m d] 33)
        obtain ⟨W1, hW1⟩ : ∃ W1, wr.alloc (.cells #[.int .i64 o.k, .int .i64 o.n, .int .i64 o.wd, .slice B m d] 33) = W1 := ⟨_, rfl⟩
        rw [hW1] at hI1 hbx hy1
        obtain ⟨N8, hN8⟩ : ∃ N8, wr.heap.size = N8 := ⟨_, rfl⟩
        rw [hN8] at hbx
        have e1 : N8 ≠ gr := by have := hI.out.lt; omega
        have e2 : N8 ≠ g := by have := hI.out.wi.wr.lt.1; omega
        have e3 : N8 ≠ g2 := by have := hI.out.wi.wr.lt.2; omega
        have hg1 : ∀ ad, B = some ad → 0 < m → ad.block ≠ g := fun ad e h0 => by have := hy0 ad e h0; have := hI1.wi.wr.lo; omega
        have hg2 : ∀ ad, B = some ad → 0 < m → ad.block ≠ g2 := fun ad e h0 => by have := hy0 ad e h0; have := hI1.wi.wr.lo2; omega
        have HG := Aside0.mk (And.intro hg1 hg2)
        have H1 := Aside0.mk (And.intro hI1 (And.intro hbx hy1))
        obtain ⟨b0, b1, b2, b3⟩ := row4_cells' hbx
        clear hy0 hg1 hg2 hI1 hbx hy1 ho hI
        go_upto_region 13 with (first
          | (go_at_call 17; refine (put_any w.heap.size g g2 nb _ o.n o.wd W1 bn H1.out.1.wi.wr).mono ?_; rintro e w5 ⟨rfl, hW5, hO5, hs5⟩; rw [putS_spoiled] at hW5; (have hI5 := H1.out.1.writer hO5 hW5); (have p5 := (hO5.block N8 (Array.getElem?_eq_some_iff.1 H1.out.2.1).1 e2 e3).trans H1.out.2.1); (have hy5 := H1.out.2.2.only2 hO5 HG.out.1 HG.out.2); clear b0 b1 b2 b3; obtain ⟨b0, b1, b2, b3⟩ := row4_cells' p5; (have H5 := Aside0.mk (And.intro hI5 (And.intro p5 hy5))); clear hI5 p5 hW5 hO5 hs5 hy5)
          | (go_at_call 19; refine (wbytes_any w.heap.size g g2 nb _ B m d o.ys w5 H5.out.1.wi.wr H5.out.2.2 HG.out.1 HG.out.2).mono ?_; rintro e w6 ⟨rfl, hW6, hO6, hs6⟩; rw [bytesS_spoiled] at hW6; (have hI6 := H5.out.1.writer hO6 hW6); (have p6 := (hO6.block N8 (Array.getElem?_eq_some_iff.1 H5.out.2.1).1 e2 e3).trans H5.out.2.1); clear b0 b1 b2 b3; obtain ⟨b0, b1, b2, b3⟩ := row4_cells' p6; (have H6 := Aside0.mk (And.intro hI6 p6)); clear hI6 p6 hW6 hO6 hs6))
        go_still_tail 5, (by kernel_rfl)
        change wpList _ _ _ _ _ w6.drew
        have hI7 := H6.out.1.step (below_drew (Below.refl _ _))
        have p7 : w6.drew.heap[N8]? = some (.cells #[.int .i64 o.k, .int .i64 o.n, .int .i64 o.wd, .slice B m d] 33) := H6.out.2
        obtain ⟨W7, hW7⟩ : ∃ W7, w6.drew = W7 := ⟨_, rfl⟩
        rw [hW7] at hI7 p7 ⊢
        have H7 := Aside0.mk (And.intro hI7 p7)
        clear hW7 hI7 p7 b0 b1 b2 b3
        obtain ⟨k1, k2, k3⟩ := get_spoiled bs.length 0 o.wd bs
        go_wp2_with (first
          | (go_at_call 21; refine (skip_wr w.heap.size g g2 nb _ o.n W7 H7.out.1.wi.wr).mono ?_; rintro e w8 ⟨rfl, hW8, hO8⟩; rw [skipS_spoiled] at hW8; (have hI8 := H7.out.1.writer hO8 hW8); (have p8 := (hO8.block N8 (Array.getElem?_eq_some_iff.1 H7.out.2).1 e2 e3).trans H7.out.2); (have H8 := Aside0.mk (And.intro hI8 p8)); clear hI8 p8 hW8 hO8)
          | (go_at_call 23; refine (done_any g _ _ _ _ true zs w8 H8.out.1.wi.wr.cur H8.out.1.wi.wr.own.bs).mono ?_; rintro e w9 ⟨A3, c3, rfl, hO9, hB9⟩; rw [show doneE true = 30 from rfl]; (have hI9 := H8.out.1.step hB9); (have p9 := (hB9.block N8 (Array.getElem?_eq_some_iff.1 H8.out.2).1).trans H8.out.2); obtain ⟨b0, b1, b2, b3⟩ := row4_cells' p9; (have H9 := Aside0.mk (And.intro hI9 p9)); clear hI9 p9 hO9 hB9)
          | (go_at_call 24; first
              | ((with_reducible refine (at_any g _ _ _ _ _ _ w9 H9.out.1.wi.wr.cur).mono ?_); rintro e wa ⟨rfl, rfl⟩)
              | ((with_reducible refine (at_any gr _ _ _ _ _ _ wc H11.out.cur).mono ?_); rintro e wa ⟨rfl, rfl⟩))
          | (go_at_call 27; refine (get_any gr A1 _ c1 _ true bs o.wd w9 H9.out.1.cur H9.out.1.row H9.out.1.ne).mono ?_; rintro e wb ⟨rfl, ho, hc⟩; rw [k1]; rw [k2, k3] at hc; (have hI10 := H9.out.1.go ho hc); (have p10 := (ho.block N8 (Array.getElem?_eq_some_iff.1 H9.out.2).1 e1).trans H9.out.2); clear b0 b1 b2 b3; obtain ⟨b0, b1, b2, b3⟩ := row4_cells' p10; (have H10 := Aside0.mk hI10); clear hI10 p10 ho hc)
          | (go_at_call 28; refine (rbytes_any w.heap.size gr A1 _ c1 _ true bs o.n wb H10.out.cur H10.out.row H10.out.ne).mono ?_; rintro e wc ⟨A4, n4, c4, ys, rfl, hO, ho, ⟨_, hc, hys⟩ | ⟨q7, _⟩⟩ <;> (first | cases q7 | skip); (have h0 : n4 = 0 := by rw [hys] at hO; exact hO.len.symm); subst h0; (have H11 := Aside0.mk (H10.out.go ho hc)); clear hO ho hc hys)
          | (go_at_call 29; refine (err_any gr _ _ _ _ _ _ H11.out.cur).mono ?_; rintro e wd ⟨rfl, rfl⟩; rw [show doneE true = 30 from rfl]))
        go_roundg (n - (j + 1))
        case measure => have := hk.out; omega
        case rel => exact ⟨j + 1, by have := hk.out; exact (show n - (j + 1) + (j + 1) = n by omega), by go_num, H11⟩
      · obtain rfl : j = n := by omega
        go_wp2_with (go_at_call 11; refine (alive03_any _).mono ?_; rintro e w9 ⟨rfl, hB9⟩)
        go_ret
        exact ⟨rfl, below_then hI.out.wi.bel hI.out.wi.bel.size hB9⟩
end Go.Proofs.Ytfhajobcfdmllaa
