/- The walk of the law FieldWide. -/
import Derived.Test.YtagfljmjdkoehaaDoorT2
set_option linter.unusedVariables false
set_option linter.unusedSimpArgs false
namespace Go.Proofs.YtagfljmjdkoehaaDoor
open Go.RowKit

set_option maxHeartbeats 16000000 in
set_option maxRecDepth 100000 in
theorem fieldWide_any (n width more : Int) (w : World) (hn : -9223372036854775808 ≤ n ∧ n ≤ 9223372036854775807) (hw : -9223372036854775808 ≤ width ∧ width ≤ 9223372036854775807) (hm : -9223372036854775808 ≤ more ∧ more ≤ 9223372036854775807) :
    Calls Tryd.prog 3 #[.int .i64 n, .int .i64 width, .int .i64 more] w fun e w' => e = .returned (.bool true) ∧ Below w.heap.size w w' := by
  cases hf : fitsB n width with
  | false =>
    have HF := Aside0.mk hf
    clear hf
    go_enter Tryd.func3, Tryd.ntmps3
    go_wp2_with (first
      | (go_at_call 5; refine (rfits_any n width w hn).mono ?_; rintro e w1 ⟨rfl, rfl⟩; rw [HF.out])
      | (go_at_call 6; refine (alive03_any w).mono ?_; rintro e w1 ⟨rfl, hB⟩; (have HB := Aside0.mk hB); clear hB)
      | fail)
    go_ret
    exact ⟨rfl, HB.out⟩
  | true =>
    have HF := Aside0.mk hf
    clear hf
    by_cases q1 : more < width
    · have g1 : decide (more < width) = true := decide_eq_true q1
      clear q1
      go_enter Tryd.func3, Tryd.ntmps3
      go_wp2_with (first
        | (go_at_call 5; refine (rfits_any n width w hn).mono ?_; rintro e w1 ⟨rfl, rfl⟩; rw [HF.out])
        | (go_at_call 6; refine (alive03_any w).mono ?_; rintro e w1 ⟨rfl, hB⟩; (have HB := Aside0.mk hB); clear hB)
        | fail)
      go_ret
      exact ⟨rfl, HB.out⟩
    have g1 : decide (more < width) = false := decide_eq_false q1
    by_cases q2 : 8 < more
    · have g2 : decide (8 < more) = true := decide_eq_true q2
      clear q1 q2
      go_enter Tryd.func3, Tryd.ntmps3
      go_wp2_with (first
        | (go_at_call 5; refine (rfits_any n width w hn).mono ?_; rintro e w1 ⟨rfl, rfl⟩; rw [HF.out])
        | (go_at_call 6; refine (alive03_any w).mono ?_; rintro e w1 ⟨rfl, hB⟩; (have HB := Aside0.mk hB); clear hB)
        | fail)
      go_ret
      exact ⟨rfl, HB.out⟩
    have g2 : decide (8 < more) = false := decide_eq_false q2
    obtain ⟨k1, k2, k3, k4⟩ := of_decide_eq_true HF.out
    obtain ⟨wd, rfl⟩ := Int.eq_ofNat_of_zero_le (show 0 ≤ width by omega)
    obtain ⟨mo, rfl⟩ := Int.eq_ofNat_of_zero_le (show 0 ≤ more by omega)
    obtain ⟨m, rfl⟩ := Int.eq_ofNat_of_zero_le k3
    rw [Int.toNat_natCast] at k4
    have hmw : m < 256 ^ wd := Int.ofNat_lt.1 (by rw [Int.natCast_pow]; exact k4)
    have HP := Aside0.mk (show 1 ≤ wd ∧ wd ≤ mo ∧ mo ≤ 8 by omega)
    have hfm := fits_more HF.out (show wd ≤ mo by omega) (by omega)
    obtain ⟨X, hX⟩ : ∃ x, le8 (m : Int) wd = x := ⟨_, rfl⟩
    obtain ⟨Y, hY⟩ : ∃ x, le8 (m : Int) mo = x := ⟨_, rfl⟩
    have hYX : Y = X ++ List.replicate (mo - wd) 0 := by rw [← hY, ← hX, ← le8_more hmw, Nat.add_sub_cancel' (by omega)]
    have hXl : X.length = wd := by rw [← hX]; exact le8_length _ _
    have hYl : Y.length = mo := by rw [← hY]; exact le8_length _ _
    have pa := put_full HF.out
    have pb := put_full hfm
    rw [hX] at pa
    rw [hY] at pb
    have hpre : pre8 Y X = true := decide_eq_true ⟨by omega, by rw [hYX, List.take_left']; rfl⟩
    have hdrop : Y.drop wd = List.replicate (mo - wd) 0 := by rw [hYX, ← hXl, List.drop_left]
    have hgv : getV mo 0 false (mo : Int) Y = (m : Int) ∧ True := by
      have hle := leN_back hfm
      rw [Int.toNat_natCast, hY] at hle
      have hok : getOk mo 0 false (mo : Int) Y = true := decide_eq_true ⟨rfl, by omega, by omega, by rw [Int.toNat_natCast]; omega, by rw [List.drop_zero, Int.toNat_natCast, List.take_of_length_le (by omega)]; omega⟩
      refine ⟨?_, trivial⟩
      unfold getV
      rw [if_pos hok, List.drop_zero, Int.toNat_natCast, List.take_of_length_le (by omega)]
      exact hle
    have en1 : nwN (wd : Int) = wd := by unfold nwN; rw [if_pos (by omega)]; omega
    have en2 : nwN (mo : Int) = mo := by unfold nwN; rw [if_pos (by omega)]; omega
    have HE := Aside0.mk (And.intro en1 (And.intro en2 (And.intro pa (And.intro pb (And.intro hpre (And.intro hdrop (And.intro hgv.1 (And.intro hXl hYl))))))))
    have g1n : decide (mo < wd) = false := decide_eq_false (by omega)
    have g2n : decide (8 < mo) = false := decide_eq_false (by omega)
    clear q1 q2 k1 k2 k3 k4 hmw hfm hX hY hYX hXl hYl pa pb hpre hdrop hgv en1 en2
    go_enter Tryd.func3, Tryd.ntmps3
    go_upto_region 6 with (first
      | (go_at_call 5; refine (rfits_any (m : Int) (wd : Int) w hn).mono ?_; rintro e w1 ⟨rfl, rfl⟩; rw [HF.out])
      | (go_at_call 7; with_reducible refine (newWriter_any (wd : Int) w).mono ?_; rintro e w1 ⟨g, g2, rfl, hg, hg2, hne, hgl, hc, hO, hB⟩; rw [HE.out.1] at hc hO; (have H1 := Aside0.mk (And.intro (show Wr w1 w.heap.size g g2 wd ⟨0, false, List.replicate wd 0⟩ from ⟨by show Cur _ _ _ _ (List.replicate wd (0 : UInt8)).length _ _ _; rw [List.length_replicate]; exact hc, by show Ow _ _ _ (List.replicate wd (0 : UInt8)).length _ _; rw [List.length_replicate]; exact hO, hne, hg, hg2⟩) hB)); clear hg hg2 hne hgl hc hO hB)
      | (go_at_call 7; with_reducible refine (newWriter_any (mo : Int) w1).mono ?_; rintro e w2 ⟨h, h2, rfl, hg, hg2, hne, hgl, hc, hO, hB⟩; rw [HE.out.2.1] at hc hO; (have H2 := Aside0.mk (And.intro (show Wr w2 w1.heap.size h h2 mo ⟨0, false, List.replicate mo 0⟩ from ⟨by show Cur _ _ _ _ (List.replicate mo (0 : UInt8)).length _ _ _; rw [List.length_replicate]; exact hc, by show Ow _ _ _ (List.replicate mo (0 : UInt8)).length _ _; rw [List.length_replicate]; exact hO, hne, hg, hg2⟩) (And.intro (H1.out.1.below hB) (below_then H1.out.2 H1.out.2.size hB)))); clear hg hg2 hne hgl hc hO hB)
      | fail)
    clear g1 g1n g2n
    have HG := Aside0.mk (show g < w1.heap.size ∧ g2 < w1.heap.size ∧ w.heap.size ≤ g ∧ w.heap.size ≤ g2 ∧ w1.heap.size ≤ h ∧ w1.heap.size ≤ h2 ∧ w.heap.size ≤ w1.heap.size from by
      obtain ⟨q, e, _, hl, _⟩ := H1.out.1.own.head (by show 0 < (List.replicate wd (0 : UInt8)).length; rw [List.length_replicate]; have := HP.out; omega)
      injection e with e
      injection e with e
      subst e
      exact ⟨(Array.getElem?_eq_some_iff.1 H1.out.1.cur.row).1, hl, H1.out.1.lo, H1.out.1.lo2, H2.out.1.lo, H2.out.1.lo2, H1.out.2.size⟩)
    go_upto_region 7 with (go_at_call 8; refine (put_any w.heap.size g g2 wd ⟨0, false, List.replicate wd 0⟩ (m : Int) (wd : Int) w2 hn H2.out.2.1).mono ?_; rintro e w3 ⟨rfl, hW, hO, hS⟩; rw [HE.out.2.2.1] at hW; (have H3 := Aside0.mk (And.intro hW (And.intro (H2.out.1.only2 hO (by have := HG.out; omega) (by have := HG.out; omega)) (hO.below H2.out.2.2 (by have := HG.out; omega) (by have := HG.out; omega) (Nat.le_refl _))))); clear hW hO hS)
    go_upto_region 8 with (go_at_call 8; refine (put_any w1.heap.size h h2 mo ⟨0, false, List.replicate mo 0⟩ (m : Int) (mo : Int) w3 hn H3.out.2.1).mono ?_; rintro e w4 ⟨rfl, hW, hO, hS⟩; rw [HE.out.2.2.2.1] at hW; (have H4 := Aside0.mk (And.intro (H3.out.1.only2 hO (by have := HG.out; omega) (by have := HG.out; omega)) (And.intro hW (hO.below H3.out.2.2 (by have := HG.out; omega) (by have := HG.out; omega) (Nat.le_refl _))))); clear hW hO hS)
    go_upto_region 9 with (go_at_call 9; refine (done_any g (some ⟨g2, 0, none⟩) X.length wd wd false X w4 H4.out.1.cur H4.out.1.own.bs).mono ?_; rintro e w5 ⟨A5, c5, rfl, hO, hB⟩; rw [show doneB false X = X from rfl, HE.out.2.2.2.2.2.2.2.1] at hO; rw [show doneB false X = X from rfl, HE.out.2.2.2.2.2.2.2.1, show doneE false = 0 from rfl]; (have H5 := Aside0.mk (And.intro (H4.out.2.1.below hB) (And.intro hO.bs (below_then H4.out.2.2 H4.out.2.2.size hB)))); clear hO hB)
    go_upto_region 10 with (go_at_call 9; refine (done_any h (some ⟨h2, 0, none⟩) Y.length mo mo false Y w5 H5.out.1.cur H5.out.1.own.bs).mono ?_; rintro e w6 ⟨A6, c6, rfl, hO, hB⟩; rw [show doneB false Y = Y from rfl, HE.out.2.2.2.2.2.2.2.2] at hO; rw [show doneB false Y = Y from rfl, HE.out.2.2.2.2.2.2.2.2, show doneE false = 0 from rfl]; (have H6 := Aside0.mk (And.intro hO.bs (And.intro (H5.out.2.1.below hB) (below_then H5.out.2.2 H5.out.2.2.size hB)))); clear hO hB)
    go_upto_region 12 with (go_at_call 10; refine (hasPrefix_any A6 mo c6 Y A5 wd c5 X w6 H6.out.1 H6.out.2.1).mono ?_; rintro e w7 ⟨rfl, rfl⟩; rw [HE.out.2.2.2.2.1])
    go_upto_region 13 with (go_at_call 11; refine (newReader_any A6 mo c6 Y w6 H6.out.1).mono ?_; rintro e w7 ⟨gr, A7, c7, rfl, hgr, hne, hc, hO, hB⟩; (have H7 := Aside0.mk (And.intro hc (And.intro hO.bs (And.intro (H6.out.1.below hB) (And.intro (below_then H6.out.2.2 H6.out.2.2.size hB) (And.intro hne (And.intro hgr (show ∀ a, A6 = some a → 0 < mo → a.block < gr from fun a e h0 => Nat.lt_of_lt_of_le (H6.out.1.lt a e h0) hgr)))))))); clear hgr hne hc hO hB)
    have hcap := H6.out.1.le
    have hccap := H6.out.1.cap
    have hwd := HP.out
    have t1 : ∀ W : World, (Instr.slice 27 (.slice A6 mo c6) (some (.int .i64 (wd : Int))) none none).run Tryd.prog W = .ok (.slice (cutA A6 c6 wd) (mo - wd) (c6 - wd)) W := fun W => by
      rw [sl8_l W A6 mo c6 .i64 (wd : Int) (by omega) (by omega), Int.toNat_natCast]
    clear hcap hccap hwd
    go_wp2_with (first
      | (go_at_call 6; refine (alive03_any w7).mono ?_; rintro e w8 ⟨rfl, hB⟩; (have H8 := Aside0.mk (And.intro (H7.out.1.below hB) (And.intro (H7.out.2.1.below hB) (And.intro (H7.out.2.2.1.below hB) (below_then H7.out.2.2.2.1 H7.out.2.2.2.1.size hB))))); clear hB)
      | (go_at_call 12; refine (get_any gr A7 mo c7 0 false Y (mo : Int) w8 H8.out.1 H8.out.2.1 H7.out.2.2.2.2.1).mono ?_; rintro e w9 ⟨rfl, hO, hC⟩; rw [HE.out.2.2.2.2.2.2.1]; (have H9 := Aside0.mk (And.intro (H8.out.2.2.1.only1 hO H7.out.2.2.2.2.2.2) (show Below w.heap.size w w9 from ⟨hO.os.trans H8.out.2.2.2.os, hO.tape.trans H8.out.2.2.2.tape, hO.output.trans H8.out.2.2.2.output, Nat.le_trans H8.out.2.2.2.size hO.size, fun k hk => (hO.block k (Nat.lt_of_lt_of_le hk H8.out.2.2.2.size) (by have h1 := H7.out.2.2.2.2.2.1; have h2 := H6.out.2.2.size; omega)).trans (H8.out.2.2.2.block k hk)⟩))); clear hO hC)
      | (go_at_call 13; refine (trim_any (cutA A6 c6 wd) (mo - wd) (c6 - wd) w9 (by have h := H9.out.1.drop wd (by have := HP.out; omega); rw [HE.out.2.2.2.2.2.1] at h; exact h)).mono ?_; rintro e w10 ⟨rfl, hB⟩; (have HZ := Aside0.mk (below_then H9.out.2 H9.out.2.size hB)); clear hB)
      | fail)
    go_ret
    exact ⟨rfl, HZ.out⟩
end Go.Proofs.YtagfljmjdkoehaaDoor
