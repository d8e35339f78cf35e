/- Which pages may be a value's. -/
import Derived.Test.YtbjfklgmbeaaoaaWA
set_option linter.unusedVariables false
set_option linter.unusedSimpArgs false
namespace Go.Proofs.Ytbjfklgmbeaaoaa
open Go.RowKit

theorem elemI : Try.prog.elem 28 = 3 := by simp [Program.elem, Try.underlying28]
theorem infoI : (Try.prog.info? 3).map (fun i => (i.zero, i.size, i.bytes)) = some (some (.int .i64 0), 1, 8) := by kernel_rfl
theorem undI : Try.prog.underlying 28 = some (.slice (Try.prog.elem 28)) := by rw [elemI]; exact Try.underlying28
theorem sizeI (w : World) : (sizeOf (Try.prog.elem 28)).run Try.prog w = .ok 1 w := by
  rw [elemI]
  obtain ⟨i, hi, hz⟩ := Option.map_eq_some_iff.1 infoI
  simp only [Prod.mk.injEq] at hz
  simp [sizeOf, typeInfo, hi, hz.2.1]
theorem slI_h (w : World) (A : Option Addr) (n c : Nat) (kh : IntKind) (h : Int) (h0 : 0 ≤ h) (h2 : h ≤ (c : Int)) :
    (Instr.slice 28 (.slice A n c) none (some (.int kh h)) none).run Try.prog w = .ok (.slice A h.toNat c) w := by
  rw [run_slice_h w _ A n c undI kh h h0 h2, sizeI]
  simp [sliced, Result.andThen, Addr.add]
/-- One page's number: in range, not twice, in a row. -/
def mayAt (g : Int) (zs : List Int) (j : Nat) : Bool := decide (2 ≤ zs.getD j 0 ∧ zs.getD j 0 < 16384) && !((zs.take j).contains (zs.getD j 0)) && (sgB g || decide (j = 0) || decide (zs.getD j 0 = zs.getD (j - 1) 0 + 1))
def mayB (g : Int) (zs : List Int) (many : Int) : Bool := (List.range zs.length).all (mayAt g zs) && decide (0 < many ∧ (zs.length : Int) = many)
theorem may_yes {g : Int} {zs : List Int} {many : Int} (h : ∀ i, i < zs.length → mayAt g zs i = true) : mayB g zs many = decide (0 < many ∧ (zs.length : Int) = many) := by
  unfold mayB
  rw [List.all_eq_true.2 (fun i hi => h i (List.mem_range.1 hi)), Bool.true_and]
theorem may_no {g : Int} {zs : List Int} {many : Int} {j : Nat} (hj : j < zs.length) (h : mayAt g zs j = false) : mayB g zs many = false := by
  unfold mayB
  cases hq : (List.range zs.length).all (mayAt g zs) with
  | false => rfl
  | true => rw [List.all_eq_true.1 hq j (List.mem_range.2 hj)] at h; cases h
theorem mayAt_lt {g : Int} {zs : List Int} {j : Nat} (h : mayAt g zs j = true) : 2 ≤ zs.getD j 0 ∧ zs.getD j 0 < 16384 := by
  unfold mayAt at h
  rw [Bool.and_eq_true, Bool.and_eq_true] at h
  exact of_decide_eq_true h.1.1
theorem getD_of {zs : List Int} {j : Nat} {z : Int} (h : zs[j]? = some z) : zs.getD j 0 = z := by rw [List.getD_eq_getElem?_getD, h]; rfl
set_option maxHeartbeats 4000000 in
set_option maxRecDepth 100000 in
theorem may_any (g : Int) (A : Option Addr) (n c : Nat) (zs : List Int) (many : Int) (w : World) (hz : Rc w 1 A n c (iv zs)) :
    Calls Try.prog 53 #[.int .i64 g, .slice A n c, .int .i64 many] w fun e w' => e = .returned (.bool (mayB g zs many)) ∧ w = w' := by
  have hlen : zs.length = n := by have := hz.len; rw [iv_len] at this; omega
  have hlim := hz.lim
  have hle := hz.le
  have hcap := hz.cap
  have HZ := Aside0.mk hz
  have HN := Aside0.mk hlen
  clear hz hlen
  obtain ⟨sg, hsg⟩ : ∃ b, sgB g = b := ⟨_, rfl⟩
  have HSG := Aside0.mk hsg
  clear hsg
  go_enter Try.func53, Try.ntmps53
  go_wp2_with fail
  go_loopg [11] n (fun gk v11 wr => ∃ j : Nat, Aside (gk + j = n) ∧ v11 = .int .i64 (j : Int) ∧ wr = w ∧ Aside0 (∀ i, i < j → mayAt g zs i = true))
  case atStart => exact ⟨0, by rfl, rfl, rfl, ⟨fun i hi => by omega⟩⟩
  case round =>
    obtain ⟨j, hk, rfl, rfl, hI⟩ := hrel
    rcases Nat.lt_or_ge j n with hlt | hge
    · have dj : decide ((j : Int) < (n : Int)) = true := decide_eq_true (by omega)
      have djn : (j : Int) < (n : Int) := by omega
      have wj : IntKind.i64.wrap ((j : Int) + 1) = ((j + 1 : Nat) : Int) := IntWalk.i64_in _ (by omega)
      have sl := fun W => slI_h W A n c .i64 (j : Int) (by omega) (by omega)
      have slt : ((j : Int)).toNat = j := by omega
      obtain ⟨ad, z, rfl, hzj, k0⟩ := HZ.out.int j hlt
      have HZJ := Aside0.mk hzj
      clear hzj
      by_cases q1 : z < 2
      · have d1 : decide (z < 2) = true := decide_eq_true q1
        have HA := Aside0.mk (may_no (many := many) (by rw [HN.out]; exact hlt) (show mayAt g zs j = false by unfold mayAt; rw [getD_of HZJ.out, decide_eq_false (by omega)]; rfl))
        clear q1
        go_wp2_with (first | (go_at_call 94; refine (contains_any _ _ _ _ _ _ HT.out).mono ?_; rintro e w1 ⟨rfl, rfl⟩; rw [HC.out]) | (go_at_call 13; refine (single_any g _).mono ?_; rintro e w2 ⟨rfl, rfl⟩; rw [HSG.out]))
        go_ret
        exact ⟨by rw [HA.out]; rfl, rfl⟩
      · have d1 : decide (z < 2) = false := decide_eq_false q1
        by_cases q2 : 16384 ≤ z
        · have d2 : decide (16384 ≤ z) = true := decide_eq_true q2
          have HA := Aside0.mk (may_no (many := many) (by rw [HN.out]; exact hlt) (show mayAt g zs j = false by unfold mayAt; rw [getD_of HZJ.out, decide_eq_false (by omega)]; rfl))
          clear q1 q2
          go_wp2_with (first | (go_at_call 94; refine (contains_any _ _ _ _ _ _ HT.out).mono ?_; rintro e w1 ⟨rfl, rfl⟩; rw [HC.out]) | (go_at_call 13; refine (single_any g _).mono ?_; rintro e w2 ⟨rfl, rfl⟩; rw [HSG.out]))
          go_ret
          exact ⟨by rw [HA.out]; rfl, rfl⟩
        · have d2 : decide (16384 ≤ z) = false := decide_eq_false q2
          have HR := Aside0.mk (show decide (2 ≤ z ∧ z < 16384) = true from decide_eq_true (by omega))
          have HT := Aside0.mk (HZ.out.take1 j (by omega))
          clear q1 q2
          cases q3 : (zs.take j).contains z with
          | true =>
            have HC := Aside0.mk q3
            have HA := Aside0.mk (may_no (many := many) (by rw [HN.out]; exact hlt) (show mayAt g zs j = false by unfold mayAt; rw [getD_of HZJ.out, q3]; simp))
            clear q3
            go_wp2_with (first | (go_at_call 94; refine (contains_any _ _ _ _ _ _ HT.out).mono ?_; rintro e w1 ⟨rfl, rfl⟩; rw [HC.out]) | (go_at_call 13; refine (single_any g _).mono ?_; rintro e w2 ⟨rfl, rfl⟩; rw [HSG.out]))
            go_ret
            exact ⟨by rw [HA.out]; rfl, rfl⟩
          | false =>
            have HC := Aside0.mk q3
            clear q3
            cases sg with
            | true =>
              have HA := Aside0.mk (show mayAt g zs j = true by unfold mayAt; rw [getD_of HZJ.out, HR.out, HC.out, HSG.out]; rfl)
              go_wp2_with (first | (go_at_call 94; refine (contains_any _ _ _ _ _ _ HT.out).mono ?_; rintro e w1 ⟨rfl, rfl⟩; rw [HC.out]) | (go_at_call 13; refine (single_any g _).mono ?_; rintro e w2 ⟨rfl, rfl⟩; rw [HSG.out]))
              go_roundg (n - (j + 1))
              case measure => have := hk.out; omega
              case rel => exact ⟨j + 1, (by show n - (j + 1) + (j + 1) = n; omega), by go_num, rfl, ⟨fun i' hi' => by
                rcases Nat.lt_or_ge i' (j) with h3 | h3
                · exact hI.out i' h3
                · obtain rfl : i' = j := by omega
                  exact HA.out⟩⟩
            | false =>
              rcases Nat.eq_zero_or_pos j with h0 | h0
              · have dz : decide (0 < j) = false := decide_eq_false (by omega)
                have dz2 : decide ((0 : Int) < (j : Int)) = false := decide_eq_false (by omega)
                have HA := Aside0.mk (show mayAt g zs j = true by unfold mayAt; rw [getD_of HZJ.out, HR.out, HC.out, h0]; simp)
                clear h0
                go_wp2_with (first | (go_at_call 94; refine (contains_any _ _ _ _ _ _ HT.out).mono ?_; rintro e w1 ⟨rfl, rfl⟩; rw [HC.out]) | (go_at_call 13; refine (single_any g _).mono ?_; rintro e w2 ⟨rfl, rfl⟩; rw [HSG.out]))
                go_roundg (n - (j + 1))
                case measure => have := hk.out; omega
                case rel => exact ⟨j + 1, (by show n - (j + 1) + (j + 1) = n; omega), by go_num, rfl, ⟨fun i' hi' => by
                  rcases Nat.lt_or_ge i' (j) with h3 | h3
                  · exact hI.out i' h3
                  · obtain rfl : i' = j := by omega
                    exact HA.out⟩⟩
              · obtain ⟨i, hij⟩ : ∃ i, j = i + 1 := ⟨j - 1, by omega⟩
                have dp : decide ((0 : Int) < (j : Int)) = true := decide_eq_true (by omega)
                have dp2 : decide (0 < j) = true := decide_eq_true (by omega)
                have wi : IntKind.i64.wrap ((j : Int) - 1) = (i : Int) := (IntWalk.i64_in _ (by omega)).trans (by omega)
                have HJ := Aside0.mk hij
                have hin : i < n := by omega
                have hij' : i < j := by omega
                clear hij h0
                obtain ⟨ad', y, ha', hyi, k1⟩ := HZ.out.int i hin
                injection ha' with ha'
                subst ha'
                have HYI := Aside0.mk hyi
                have hy := mayAt_lt (hI.out i hij')
                rw [getD_of hyi] at hy
                have wy : IntKind.i64.wrap (y + 1) = y + 1 := IntWalk.i64_in _ (by omega)
                clear hyi hy
                by_cases q4 : z = y + 1
                · subst q4
                  have d4 : (y + 1 != y + 1) = false := bne_self_eq_false _
                  have HA := Aside0.mk (show mayAt g zs j = true by unfold mayAt; rw [getD_of HZJ.out, HR.out, HC.out, show j - 1 = i by rw [HJ.out]; rfl, getD_of HYI.out]; simp)
                  go_wp2_with (first | (go_at_call 94; refine (contains_any _ _ _ _ _ _ HT.out).mono ?_; rintro e w1 ⟨rfl, rfl⟩; rw [HC.out]) | (go_at_call 13; refine (single_any g _).mono ?_; rintro e w2 ⟨rfl, rfl⟩; rw [HSG.out]))
                  go_roundg (n - (j + 1))
                  case measure => have := hk.out; omega
                  case rel => exact ⟨j + 1, (by show n - (j + 1) + (j + 1) = n; omega), by go_num, rfl, ⟨fun i' hi' => by
                    rcases Nat.lt_or_ge i' (j) with h3 | h3
                    · exact hI.out i' h3
                    · obtain rfl : i' = j := by omega
                      exact HA.out⟩⟩
                · have d4 : (z != y + 1) = true := bne_iff_ne.2 q4
                  have HA := Aside0.mk (may_no (many := many) (by rw [HN.out]; exact hlt) (show mayAt g zs j = false by unfold mayAt; rw [getD_of HZJ.out, HR.out, HC.out, HSG.out, show j - 1 = i by rw [HJ.out]; rfl, getD_of HYI.out, decide_eq_false q4, decide_eq_false (show ¬ j = 0 by rw [HJ.out]; omega)]; rfl))
                  clear q4
                  go_wp2_with (first | (go_at_call 94; refine (contains_any _ _ _ _ _ _ HT.out).mono ?_; rintro e w1 ⟨rfl, rfl⟩; rw [HC.out]) | (go_at_call 13; refine (single_any g _).mono ?_; rintro e w2 ⟨rfl, rfl⟩; rw [HSG.out]))
                  go_ret
                  exact ⟨by rw [HA.out]; rfl, rfl⟩
    · obtain rfl : n = j := by have := hk.out; omega
      have dj : decide ((n : Int) < (n : Int)) = false := by simp
      have HM := Aside0.mk (may_yes (many := many) (fun i hi => hI.out i (by rw [HN.out] at hi; exact hi)))
      rw [HN.out] at HM
      by_cases q : 0 < many
      · have d1 : decide (0 < many) = true := decide_eq_true q
        by_cases q2 : (n : Int) = many
        · subst q2
          have d2 : ((n : Int) == (n : Int)) = true := by simp
          have HA := Aside0.mk (HM.out.trans (decide_eq_true ⟨q, rfl⟩))
          clear HM
          go_wp2_with fail
          go_ret
          exact ⟨by (rw [HA.out]) <;> rfl, rfl⟩
        · have d2 : ((n : Int) == many) = false := beq_eq_false_iff_ne.2 q2
          have HA := Aside0.mk (HM.out.trans (decide_eq_false (fun h => q2 h.2)))
          clear HM
          go_wp2_with fail
          go_ret
          exact ⟨by (rw [HA.out]) <;> rfl, rfl⟩
      · have d1 : decide (0 < many) = false := decide_eq_false q
        have HA := Aside0.mk (HM.out.trans (decide_eq_false (fun h => q h.1)))
        clear HM
        go_wp2_with fail
        go_ret
        exact ⟨by (rw [HA.out]) <;> rfl, rfl⟩
end Go.Proofs.Ytbjfklgmbeaaoaa
