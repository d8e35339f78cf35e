/- ref08's May and Page. -/
import Derived.Test.YtbjfklgmbeaaoaaWN
set_option linter.unusedVariables false
set_option linter.unusedSimpArgs false
namespace Go.Proofs.Ytbjfklgmbeaaoaa
open Go.RowKit

/-- The page of an image. -/
def pgI (im : List UInt8) (id : Int) : Option (List UInt8) := if 0 ≤ id ∧ id < ((im.length / 256 : Nat) : Int) then some ((im.drop (256 * id.toNat)).take 256) else none
set_option maxHeartbeats 4000000 in
set_option maxRecDepth 100000 in
theorem rPage_any (A : Option Addr) (n c : Nat) (im : List UInt8) (id : Int) (w : World) (hb : Bs w A n c im) (hn : n ≤ 100000) :
    Calls Try.prog 18 #[.slice A n c, .int .i64 id] w fun e w' => ∃ A1 c1, e = .returned (.tuple #[.slice A1 ((pgI im id).getD []).length c1, .bool (pgI im id).isSome]) ∧ (∀ W', Bs W' A n c im → Bs W' A1 ((pgI im id).getD []).length c1 ((pgI im id).getD [])) ∧ w = w' := by
  have hl := hb.len
  have hle := hb.le
  have hcap := hb.cap
  have HB := Aside0.mk hb
  obtain ⟨P, hP⟩ : ∃ P, n / 256 = P := ⟨_, rfl⟩
  have q1 : Int.tdiv (n : Int) 256 = (P : Int) := by rw [Int.tdiv_eq_ediv_of_nonneg (by omega)]; omega
  have q2 : IntKind.i64.wrap (P : Int) = (P : Int) := IntWalk.i64_in _ (by omega)
  by_cases h0 : id < 0
  · have d0 : decide (id < 0) = true := decide_eq_true h0
    have HG := Aside0.mk (show pgI im id = none from if_neg (by omega))
    clear hb
    go_enter Try.func18, Try.ntmps18
    go_wp2_with fail
    go_ret2
    rw [HG.out]
    exact ⟨none, 0, rfl, fun _ _ => Bs.nil _ _ _ (by omega), rfl⟩
  · have d0 : decide (id < 0) = false := decide_eq_false h0
    by_cases h1 : (P : Int) ≤ id
    · have d1 : decide ((P : Int) ≤ id) = true := decide_eq_true h1
      have HG := Aside0.mk (show pgI im id = none from if_neg (by rw [hl, hP]; omega))
      clear hb hP
      go_enter Try.func18, Try.ntmps18
      go_wp2_with fail
      go_ret2
      rw [HG.out]
      exact ⟨none, 0, rfl, fun _ _ => Bs.nil _ _ _ (by omega), rfl⟩
    · have d1 : decide ((P : Int) ≤ id) = false := decide_eq_false h1
      obtain ⟨i, rfl⟩ := Int.eq_ofNat_of_zero_le (show 0 ≤ id by omega)
      have d1' : decide (P ≤ i) = false := decide_eq_false (by omega)
      have HG := Aside0.mk (show pgI im (i : Int) = some ((im.drop (256 * i)).take 256) from if_pos (by rw [hl, hP]; omega))
      obtain ⟨p, hp⟩ : ∃ p, 256 * i = p := ⟨_, rfl⟩
      obtain ⟨q, hq⟩ : ∃ q, p + 256 = q := ⟨_, rfl⟩
      have hqn : q ≤ n := by omega
      have m1 : IntKind.i64.wrap (256 * (i : Int)) = (p : Int) := (IntWalk.i64_in _ (by omega)).trans (by omega)
      have m2 : IntKind.i64.wrap ((p : Int) + 256) = (q : Int) := (IntWalk.i64_in _ (by omega)).trans (by omega)
      have sl := fun W => sl8_lh W A n c .i64 .i64 (p : Int) (q : Int) (by omega) (by omega) (by omega)
      simp only [Int.toNat_natCast, show q - p = 256 by omega] at sl
      have hbs := fun (W' : World) (hb : Bs W' A n c im) => (hb.drop p (by omega)).take 256 (by omega)
      have hlen : (((im.drop p).take 256)).length = 256 := by rw [List.length_take, List.length_drop]; omega
      rw [hp] at HG
      have HS := Aside0.mk (And.intro hbs hlen)
      clear hb hP hp hq hbs hlen
      go_enter Try.func18, Try.ntmps18
      go_wp2_with fail
      go_ret2
      rw [HG.out, Option.getD_some, HS.out.2]
      exact ⟨cutA A c p, c - p, rfl, HS.out.1, rfl⟩
theorem may_at3 {zs : List Int} {j : Nat} (h : ∀ i, i < j → mayAt 3 zs i = true) : ∀ k, k < j → zs.getD k 0 = zs.getD 0 0 + (k : Int)
  | 0, _ => by simp
  | k + 1, hk => by
    have h1 := h (k + 1) hk
    have h2 := may_at3 h k (by omega)
    unfold mayAt at h1
    rw [Bool.and_eq_true] at h1
    have h3 := h1.2
    rw [Bool.or_eq_true, Bool.or_eq_true] at h3
    rcases h3 with (h3 | h3) | h3
    · cases h3
    · have := of_decide_eq_true h3
      omega
    · have h4 := of_decide_eq_true h3
      rw [show k + 1 - 1 = k from rfl] at h4
      omega
theorem mem_take {α : Type} [BEq α] [LawfulBEq α] {zs : List α} {j k : Nat} {y : α} (h : zs[k]? = some y) (hk : k < j) : (zs.take j).contains y = true := by
  rw [List.contains_iff_mem]
  exact List.mem_of_getElem? (show (zs.take j)[k]? = some y by rw [List.getElem?_take, if_pos hk]; exact h)
set_option maxHeartbeats 8000000 in
set_option maxRecDepth 100000 in
theorem rMay_any (g : Int) (A : Option Addr) (n c : Nat) (zs : List Int) (many : Int) (w : World) (hg : 1 ≤ g ∧ g ≤ 3) (hz : Rc w 1 A n c (iv zs)) :
    Calls Try.prog 93 #[.int .i64 g, .slice A n c, .int .i64 many] w fun e w' => e = .returned (.bool (mayB g zs many)) ∧ Below w.heap.size w w' := by
  have hlen : zs.length = n := by have := hz.len; rw [iv_len] at this; omega
  have hlim := hz.lim
  have HZ := Aside0.mk hz
  have HN := Aside0.mk hlen
  have HGB := Aside0.mk hg
  clear hz hlen hg
  go_enter Try.func93, Try.ntmps93
  go_wp2_with fail
  go_loopg [7] n (fun gk v7 wr => ∃ j : Nat, Aside (gk + j = n) ∧ v7 = .int .i64 (j : Int) ∧ Aside0 (Below w.heap.size w wr) ∧ Aside0 (∀ i, i < j → mayAt g zs i = true))
  case atStart => exact ⟨0, by rfl, rfl, ⟨Below.refl _ _⟩, ⟨fun i hi => by omega⟩⟩
  case round =>
    obtain ⟨j, hk, rfl, HBW, hI⟩ := hrel
    have hjm : j ≤ n := by have := hk.out; omega
    rcases Nat.lt_or_ge j n with hlt | hge
    · have dj : decide ((j : Int) < (n : Int)) = true := decide_eq_true (by omega)
      have djn : (j : Int) < (n : Int) := by omega
      have wj : IntKind.i64.wrap ((j : Int) + 1) = ((j + 1 : Nat) : Int) := IntWalk.i64_in _ (by omega)
      have d0n : (0 : Int) < (n : Int) := by omega
      obtain ⟨ad, z, rfl, hzj, k0⟩ := (HZ.out.below HBW.out).int j hlt
      obtain ⟨ad', z0, ha', hz0, k00⟩ := (HZ.out.below HBW.out).int 0 (by omega)
      injection ha' with ha'
      subst ha'
      rw [show (ad.add 0) = ad from rfl] at k00
      have HZJ := Aside0.mk (And.intro (getD_at (d := 0) hzj) (getD_at (d := 0) hz0))
      by_cases q1 : z < 2
      · have d1 : decide (z < 2) = true := decide_eq_true q1
        have HQ := Aside0.mk q1
        have HA := Aside0.mk (may_no (many := many) (by rw [HN.out]; exact hlt) (show mayAt g zs j = false by unfold mayAt; rw [HZJ.out.1, decide_eq_false (by omega)]; rfl))
        go_upto_region 4 with fail
        refine wp_region_ext (by kernel_rfl) (by kernel_rfl) ?_
        have a0 := cell_ext k0
        have a1 := cell_ext k00
        clear k0 k00
        repeat (go_big_quiet_step (fail))
        refine wpQuiet_nil ?_
        rintro w' ⟨kx, rfl⟩
        clear a0 a1
        have H6 := Aside0.mk (below_then HBW.out HBW.out.size kx.bel)
        obtain ⟨w6, hw6⟩ : ∃ X, kx.w = X := ⟨_, rfl⟩
        rw [hw6] at H6
        rw [hw6]
        clear hw6
        go_wp2_with fail
        go_ret
        exact ⟨by (rw [HA.out]) <;> rfl, H6.out⟩
      · have d1 : decide (z < 2) = false := decide_eq_false q1
        by_cases q2 : 16383 < z
        · have d2 : decide (16383 < z) = true := decide_eq_true q2
          have HQ := Aside0.mk q2
          have HA := Aside0.mk (may_no (many := many) (by rw [HN.out]; exact hlt) (show mayAt g zs j = false by unfold mayAt; rw [HZJ.out.1, decide_eq_false (by omega)]; rfl))
          go_upto_region 4 with fail
          refine wp_region_ext (by kernel_rfl) (by kernel_rfl) ?_
          have a0 := cell_ext k0
          have a1 := cell_ext k00
          clear k0 k00
          repeat (go_big_quiet_step (fail))
          refine wpQuiet_nil ?_
          rintro w' ⟨kx, rfl⟩
          clear a0 a1
          have H6 := Aside0.mk (below_then HBW.out HBW.out.size kx.bel)
          obtain ⟨w6, hw6⟩ : ∃ X, kx.w = X := ⟨_, rfl⟩
          rw [hw6] at H6
          rw [hw6]
          clear hw6
          go_wp2_with fail
          go_ret
          exact ⟨by (rw [HA.out]) <;> rfl, H6.out⟩
        · have d2 : decide (16383 < z) = false := decide_eq_false q2
          have hz0r : -9223372036854775808 ≤ z0 + (j : Int) ∧ z0 + (j : Int) ≤ 9223372036854775807 := by
            rcases Nat.eq_zero_or_pos j with h0 | h0
            · subst h0
              rw [hz0] at hzj
              injection hzj with hzj
              omega
            · have h1 := mayAt_lt (hI.out 0 h0)
              rw [HZJ.out.2] at h1
              omega
          have w4 : IntKind.i64.wrap (z0 + (j : Int)) = z0 + (j : Int) := IntWalk.i64_in _ (by omega)
          by_cases q3 : g = 3 ∧ z ≠ z0 + (j : Int)
          · obtain ⟨rfl, q4⟩ := q3
            have d4 : (z != z0 + (j : Int)) = true := bne_iff_ne.2 q4
            have hj0 : ¬ j = 0 := fun h0 => by
              subst h0
              rw [hz0] at hzj
              injection hzj with hzj
              omega
            have HQ := Aside0.mk q4
            have HA := Aside0.mk (may_no (many := many) (by rw [HN.out]; exact hlt) (show mayAt 3 zs j = false by unfold mayAt; have h6 := may_at3 hI.out (j - 1) (by omega); rw [HZJ.out.2] at h6; rw [HZJ.out.1, decide_eq_false (show ¬ z = zs.getD (j - 1) 0 + 1 by omega), decide_eq_false hj0, show sgB 3 = false from rfl, Bool.false_or, Bool.false_or, Bool.and_false]))
            go_upto_region 4 with fail
            refine wp_region_ext (by kernel_rfl) (by kernel_rfl) ?_
            have a0 := cell_ext k0
            have a1 := cell_ext k00
            clear k0 k00
            repeat (go_big_quiet_step (fail))
            refine wpQuiet_nil ?_
            rintro w' ⟨kx, rfl⟩
            clear a0 a1
            have H6 := Aside0.mk (below_then HBW.out HBW.out.size kx.bel)
            obtain ⟨w6, hw6⟩ : ∃ X, kx.w = X := ⟨_, rfl⟩
            rw [hw6] at H6
            rw [hw6]
            clear hw6
            go_wp2_with fail
            go_ret
            exact ⟨by (rw [HA.out]) <;> rfl, H6.out⟩
          · have HQ3 := Aside0.mk q3
            have HRG := Aside0.mk (show decide (2 ≤ z ∧ z < 16384) = true from decide_eq_true (by omega))
            have HLS := Aside0.mk (show (sgB g || decide (j = 0) || decide (z = zs.getD (j - 1) 0 + 1)) = true by
              by_cases h3 : g = 3
              · subst h3
                have hz1 : z = z0 + (j : Int) := by
                  by_cases h5 : z = z0 + (j : Int)
                  · exact h5
                  · exact absurd ⟨rfl, h5⟩ q3
                rcases Nat.eq_zero_or_pos j with h0 | h0
                · rw [decide_eq_true h0, Bool.or_true, Bool.true_or]
                · have h6 := may_at3 hI.out (j - 1) (by omega)
                  rw [HZJ.out.2] at h6
                  rw [decide_eq_true (show z = zs.getD (j - 1) 0 + 1 by omega), Bool.or_true]
              · have hs : sgB g = true := decide_eq_true (by have := HGB.out; omega)
                rw [hs]
                rfl)
            have HZJ2 := Aside0.mk hzj
            go_upto_region 4 with fail
            by_cases h3 : g = 3
            · have d3 : (g == 3) = true := beq_iff_eq.2 h3
              have d4 : (z != z0 + (j : Int)) = false := by
                have hz1 : z = z0 + (j : Int) := by
                  by_cases h5 : z = z0 + (j : Int)
                  · exact h5
                  · exact absurd ⟨h3, h5⟩ q3
                rw [← hz1]
                exact bne_self_eq_false _
              clear q1 q2 q3 hzj hz0 hz0r h3
              refine wp_region_ext (by kernel_rfl) (by kernel_rfl) ?_
              have a0 := cell_ext k0
              have a1 := cell_ext k00
              clear k0 k00
              repeat (go_big_quiet_step (fail))
              refine wpQuiet_nil ?_
              rintro w' ⟨kx, rfl⟩
              clear a0 a1
              have H6 := Aside0.mk (below_then HBW.out HBW.out.size kx.bel)
              obtain ⟨w6, hw6⟩ : ∃ X, kx.w = X := ⟨_, rfl⟩
              rw [hw6] at H6
              rw [hw6]
              clear hw6
              clear d1 d2 w4
              go_wp2_with fail
              go_loopg [8] j (fun gk v8 wr => ∃ k : Nat, Aside (gk + k = j) ∧ v8 = .int .i64 (k : Int) ∧ Aside0 (Below w.heap.size w wr) ∧ Aside0 (∀ i, i < k → zs[i]? ≠ some z))
              case atStart => exact ⟨0, rfl, rfl, H6, ⟨fun i hi => by omega⟩⟩
              case round =>
                obtain ⟨k, hkk, rfl, HBW2, hI2⟩ := hrel
                have hkj : k ≤ j := by have := hkk.out; omega
                rcases Nat.lt_or_ge k j with hlt2 | hge2
                · have dk : decide ((k : Int) < (j : Int)) = true := decide_eq_true (by omega)
                  have dkj : (k : Int) < (j : Int) := by omega
                  have dkn : (k : Int) < (n : Int) := by omega
                  have wk : IntKind.i64.wrap ((k : Int) + 1) = ((k + 1 : Nat) : Int) := IntWalk.i64_in _ (by omega)
                  obtain ⟨ad2, y, ha2, hyk, k2⟩ := (HZ.out.below HBW2.out).int k (by omega)
                  injection ha2 with ha2
                  subst ha2
                  obtain ⟨ad3, z9, ha3, hz9, k3⟩ := (HZ.out.below HBW2.out).int j hlt
                  injection ha3 with ha3
                  subst ha3
                  have hz99 := hz9.symm.trans HZJ2.out
                  injection hz99 with hz99
                  subst hz99
                  have HYK := Aside0.mk hyk
                  clear hyk hz9
                  go_upto_region 9 with fail
                  have HBW := HBW2
                  by_cases q5 : y = z9
                  · subst q5
                    have d5 : (y == y) = true := beq_self_eq_true _
                    have HA := Aside0.mk (may_no (many := many) (by rw [HN.out]; exact hlt) (show mayAt g zs j = false by unfold mayAt; rw [HZJ.out.1, mem_take HYK.out hlt2, Bool.not_true, Bool.and_false, Bool.false_and]))
                    refine wp_region_ext (by kernel_rfl) (by kernel_rfl) ?_
                    have a0 := cell_ext k2
                    have a1 := cell_ext k3
                    clear k2 k3
                    repeat (go_big_quiet_step (fail))
                    refine wpQuiet_nil ?_
                    rintro w' ⟨kx, rfl⟩
                    clear a0 a1
                    have H6 := Aside0.mk (below_then HBW.out HBW.out.size kx.bel)
                    obtain ⟨w6, hw6⟩ : ∃ X, kx.w = X := ⟨_, rfl⟩
                    rw [hw6] at H6
                    rw [hw6]
                    clear hw6
                    go_wp2_with fail
                    go_ret
                    exact ⟨by (rw [HA.out]) <;> rfl, H6.out⟩
                  · have d5 : (y == z9) = false := beq_eq_false_iff_ne.2 q5
                    have HQ5 := Aside0.mk q5
                    clear q5
                    refine wp_region_ext (by kernel_rfl) (by kernel_rfl) ?_
                    have a0 := cell_ext k2
                    have a1 := cell_ext k3
                    clear k2 k3
                    repeat (go_big_quiet_step (fail))
                    refine wpQuiet_nil ?_
                    rintro w' ⟨kx, rfl⟩
                    clear a0 a1
                    have H6 := Aside0.mk (below_then HBW.out HBW.out.size kx.bel)
                    obtain ⟨w6, hw6⟩ : ∃ X, kx.w = X := ⟨_, rfl⟩
                    rw [hw6] at H6
                    rw [hw6]
                    clear hw6
                    go_wp2_with fail
                    go_roundg (j - (k + 1))
                    case measure => have := hkk.out; omega
                    case rel => exact ⟨k + 1, (by show j - (k + 1) + (k + 1) = j; omega), by go_num, H6, ⟨fun i hi => by
                      rcases Nat.lt_or_ge i k with h5 | h5
                      · exact hI2.out i h5
                      · obtain rfl : i = k := by omega
                        intro h6
                        have h7 := HYK.out.symm.trans h6
                        injection h7 with h7
                        exact HQ5.out h7⟩⟩
                · obtain rfl : k = j := by omega
                  have dk : decide ((k : Int) < (k : Int)) = false := by simp
                  have HNC := Aside0.mk (show (zs.take k).contains z = false by
                    cases hcn : (zs.take k).contains z with
                    | false => rfl
                    | true =>
                      rw [List.contains_iff_mem] at hcn
                      obtain ⟨i, hi⟩ := List.mem_iff_getElem?.1 hcn
                      rw [List.getElem?_take] at hi
                      split at hi
                      · exact absurd hi (hI2.out i (by assumption))
                      · cases hi)
                  have HA := Aside0.mk (show mayAt g zs k = true by unfold mayAt; rw [HZJ.out.1, HRG.out, HNC.out, HLS.out]; rfl)
                  go_wp2_with fail
                  go_roundg (n - (k + 1))
                  case measure => have := hk.out; omega
                  case rel => exact ⟨k + 1, (by show n - (k + 1) + (k + 1) = n; omega), by go_num, HBW2, ⟨fun i' hi' => by
                    rcases Nat.lt_or_ge i' k with h3 | h3
                    · exact hI.out i' h3
                    · obtain rfl : i' = k := by omega
                      exact HA.out⟩⟩
            · have d3 : (g == 3) = false := beq_eq_false_iff_ne.2 h3
              clear q1 q2 q3 hzj hz0 hz0r h3
              refine wp_region_ext (by kernel_rfl) (by kernel_rfl) ?_
              have a0 := cell_ext k0
              have a1 := cell_ext k00
              clear k0 k00
              repeat (go_big_quiet_step (fail))
              refine wpQuiet_nil ?_
              rintro w' ⟨kx, rfl⟩
              clear a0 a1
              have H6 := Aside0.mk (below_then HBW.out HBW.out.size kx.bel)
              obtain ⟨w6, hw6⟩ : ∃ X, kx.w = X := ⟨_, rfl⟩
              rw [hw6] at H6
              rw [hw6]
              clear hw6
              clear d1 d2 w4
              go_wp2_with fail
              go_loopg [8] j (fun gk v8 wr => ∃ k : Nat, Aside (gk + k = j) ∧ v8 = .int .i64 (k : Int) ∧ Aside0 (Below w.heap.size w wr) ∧ Aside0 (∀ i, i < k → zs[i]? ≠ some z))
              case atStart => exact ⟨0, rfl, rfl, H6, ⟨fun i hi => by omega⟩⟩
              case round =>
                obtain ⟨k, hkk, rfl, HBW2, hI2⟩ := hrel
                have hkj : k ≤ j := by have := hkk.out; omega
                rcases Nat.lt_or_ge k j with hlt2 | hge2
                · have dk : decide ((k : Int) < (j : Int)) = true := decide_eq_true (by omega)
                  have dkj : (k : Int) < (j : Int) := by omega
                  have dkn : (k : Int) < (n : Int) := by omega
                  have wk : IntKind.i64.wrap ((k : Int) + 1) = ((k + 1 : Nat) : Int) := IntWalk.i64_in _ (by omega)
                  obtain ⟨ad2, y, ha2, hyk, k2⟩ := (HZ.out.below HBW2.out).int k (by omega)
                  injection ha2 with ha2
                  subst ha2
                  obtain ⟨ad3, z9, ha3, hz9, k3⟩ := (HZ.out.below HBW2.out).int j hlt
                  injection ha3 with ha3
                  subst ha3
                  have hz99 := hz9.symm.trans HZJ2.out
                  injection hz99 with hz99
                  subst hz99
                  have HYK := Aside0.mk hyk
                  clear hyk hz9
                  go_upto_region 9 with fail
                  have HBW := HBW2
                  by_cases q5 : y = z9
                  · subst q5
                    have d5 : (y == y) = true := beq_self_eq_true _
                    have HA := Aside0.mk (may_no (many := many) (by rw [HN.out]; exact hlt) (show mayAt g zs j = false by unfold mayAt; rw [HZJ.out.1, mem_take HYK.out hlt2, Bool.not_true, Bool.and_false, Bool.false_and]))
                    refine wp_region_ext (by kernel_rfl) (by kernel_rfl) ?_
                    have a0 := cell_ext k2
                    have a1 := cell_ext k3
                    clear k2 k3
                    repeat (go_big_quiet_step (fail))
                    refine wpQuiet_nil ?_
                    rintro w' ⟨kx, rfl⟩
                    clear a0 a1
                    have H6 := Aside0.mk (below_then HBW.out HBW.out.size kx.bel)
                    obtain ⟨w6, hw6⟩ : ∃ X, kx.w = X := ⟨_, rfl⟩
                    rw [hw6] at H6
                    rw [hw6]
                    clear hw6
                    go_wp2_with fail
                    go_ret
                    exact ⟨by (rw [HA.out]) <;> rfl, H6.out⟩
                  · have d5 : (y == z9) = false := beq_eq_false_iff_ne.2 q5
                    have HQ5 := Aside0.mk q5
                    clear q5
                    refine wp_region_ext (by kernel_rfl) (by kernel_rfl) ?_
                    have a0 := cell_ext k2
                    have a1 := cell_ext k3
                    clear k2 k3
                    repeat (go_big_quiet_step (fail))
                    refine wpQuiet_nil ?_
                    rintro w' ⟨kx, rfl⟩
                    clear a0 a1
                    have H6 := Aside0.mk (below_then HBW.out HBW.out.size kx.bel)
                    obtain ⟨w6, hw6⟩ : ∃ X, kx.w = X := ⟨_, rfl⟩
                    rw [hw6] at H6
                    rw [hw6]
                    clear hw6
                    go_wp2_with fail
                    go_roundg (j - (k + 1))
                    case measure => have := hkk.out; omega
                    case rel => exact ⟨k + 1, (by show j - (k + 1) + (k + 1) = j; omega), by go_num, H6, ⟨fun i hi => by
                      rcases Nat.lt_or_ge i k with h5 | h5
                      · exact hI2.out i h5
                      · obtain rfl : i = k := by omega
                        intro h6
                        have h7 := HYK.out.symm.trans h6
                        injection h7 with h7
                        exact HQ5.out h7⟩⟩
                · obtain rfl : k = j := by omega
                  have dk : decide ((k : Int) < (k : Int)) = false := by simp
                  have HNC := Aside0.mk (show (zs.take k).contains z = false by
                    cases hcn : (zs.take k).contains z with
                    | false => rfl
                    | true =>
                      rw [List.contains_iff_mem] at hcn
                      obtain ⟨i, hi⟩ := List.mem_iff_getElem?.1 hcn
                      rw [List.getElem?_take] at hi
                      split at hi
                      · exact absurd hi (hI2.out i (by assumption))
                      · cases hi)
                  have HA := Aside0.mk (show mayAt g zs k = true by unfold mayAt; rw [HZJ.out.1, HRG.out, HNC.out, HLS.out]; rfl)
                  go_wp2_with fail
                  go_roundg (n - (k + 1))
                  case measure => have := hk.out; omega
                  case rel => exact ⟨k + 1, (by show n - (k + 1) + (k + 1) = n; omega), by go_num, HBW2, ⟨fun i' hi' => by
                    rcases Nat.lt_or_ge i' k with h3 | h3
                    · exact hI.out i' h3
                    · obtain rfl : i' = k := by omega
                      exact HA.out⟩⟩
    · obtain rfl : n = j := by omega
      have dj : decide ((n : Int) < (n : Int)) = false := by simp
      have HM := Aside0.mk (may_yes (many := many) (fun i hi => hI.out i (by rw [HN.out] at hi; exact hi)))
      rw [HN.out] at HM
      by_cases q : 0 < many
      · have d1 : decide (0 < many) = true := decide_eq_true q
        by_cases q2 : (n : Int) = many
        · subst q2
          have d2 : ((n : Int) == (n : Int)) = true := by simp
          have HA := Aside0.mk (HM.out.trans (decide_eq_true ⟨q, rfl⟩))
          clear HM
          go_wp2_with fail
          go_ret
          exact ⟨by (rw [HA.out]) <;> rfl, HBW.out⟩
        · have d2 : (many == (n : Int)) = false := beq_eq_false_iff_ne.2 (fun h => q2 h.symm)
          have HA := Aside0.mk (HM.out.trans (decide_eq_false (fun h => q2 h.2)))
          clear HM
          go_wp2_with fail
          go_ret
          exact ⟨by (rw [HA.out]) <;> rfl, HBW.out⟩
      · have d1 : decide (0 < many) = false := decide_eq_false q
        have HA := Aside0.mk (HM.out.trans (decide_eq_false (fun h => q h.1)))
        clear HM
        go_wp2_with fail
        go_ret
        exact ⟨by (rw [HA.out]) <;> rfl, HBW.out⟩
end Go.Proofs.Ytbjfklgmbeaaoaa
