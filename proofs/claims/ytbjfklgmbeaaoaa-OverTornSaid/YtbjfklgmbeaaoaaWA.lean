/- How many pages a value has. -/
import Derived.Test.YtbjfklgmbeaaoaaK6
set_option linter.unusedVariables false
set_option linter.unusedSimpArgs false
namespace Go.Proofs.Ytbjfklgmbeaaoaa
open Go.RowKit

def sgB (g : Int) : Bool := decide (g = 1 ∨ g = 2)
def ovM (g size : Int) : Int :=
  if g = 1 ∧ 33 ≤ size ∧ size ≤ 400 then (size + 247) / 248 else if g = 2 ∧ 33 ≤ size ∧ size ≤ 800 then (size + 239) / 240 else if g = 3 ∧ 33 ≤ size ∧ size ≤ 1600 then (size + 271) / 256 else 0
theorem single_any (g : Int) (w : World) : Calls Try.prog 13 #[.int .i64 g] w fun e w' => e = .returned (.bool (sgB g)) ∧ w = w' := by
  by_cases q : g = 1
  · subst q
    go_enter Try.func13, Try.ntmps13
    go_wp2
    go_ret
    exact ⟨rfl, rfl⟩
  · have e1 : (g == 1) = false := beq_eq_false_iff_ne.2 q
    by_cases q2 : g = 2
    · subst q2
      go_enter Try.func13, Try.ntmps13
      go_wp2
      go_ret
      exact ⟨rfl, rfl⟩
    · have e2 : (g == 2) = false := beq_eq_false_iff_ne.2 q2
      have h := Aside0.mk (show sgB g = false from decide_eq_false (by omega))
      clear q q2
      go_enter Try.func13, Try.ntmps13
      go_wp2
      go_ret
      exact ⟨by (rw [h.out]) <;> rfl, rfl⟩
set_option maxHeartbeats 4000000 in
set_option maxRecDepth 100000 in
theorem overMany_any (g size : Int) (w : World) : Calls Try.prog 11 #[.int .i64 g, .int .i64 size] w fun e w' => e = .returned (.int .i64 (ovM g size)) ∧ Below w.heap.size w w' := by
  have HB0 := Aside0.mk (Below.refl w.heap.size w)
  rcases gen_cases g with rfl | rfl | rfl | hg
  · by_cases q : 33 ≤ size
    · by_cases q2 : size ≤ 400
      · have d1 : decide (size ≤ 32) = false := decide_eq_false (by omega)
        have d2 : decide (400 < size) = false := decide_eq_false (by omega)
        have h := Aside0.mk (show ovM 1 size = (size + 247) / 248 by unfold ovM; first | rw [if_pos ⟨rfl, q, q2⟩] | rw [if_neg (by omega), if_pos ⟨rfl, q, q2⟩] | rw [if_neg (by omega), if_neg (by omega), if_pos ⟨rfl, q, q2⟩])
        have t1 : IntKind.i64.wrap (size + 248) = size + 248 := IntWalk.i64_in _ (by omega)
        have t2 : IntKind.i64.wrap (size + 248 - 1) = size + 247 := (IntWalk.i64_in _ (by omega)).trans (by omega)
        have t4 : Int.tdiv (size + 247) 248 = (size + 247) / 248 := Int.tdiv_eq_ediv_of_nonneg (by omega)
        have t5 : IntKind.i64.wrap ((size + 247) / 248) = (size + 247) / 248 := IntWalk.i64_in _ (by omega)
        clear q q2
        go_enter Try.func11, Try.ntmps11
        go_wp2_with (first
          | (go_at_call 38; refine (gen_any 1 _).mono ?_; rintro e w1 ⟨rfl, rfl⟩; rw [show genB 1 = true from rfl])
          | (go_at_call 39; refine (maxValue_any 1 _).mono ?_; rintro e w2 ⟨rfl, hB⟩; rw [show mvI 1 = 400 from rfl]; (have H2 := Aside0.mk hB); clear hB)
          | (go_at_call 13; refine (single_any 1 _).mono ?_; rintro e w3 ⟨rfl, rfl⟩; rw [show sgB 1 = true from rfl])
          | (go_at_call 40; refine (cap_any 1 w4).mono ?_; rintro e w5 ⟨rfl, hB⟩; rw [show cpI 1 = 248 from rfl]; (have H5 := Aside0.mk (below_then H4.out H4.out.size hB)); clear hB)
          | (go_at_call 40; refine (cap_any 1 _).mono ?_; rintro e w4 ⟨rfl, hB⟩; rw [show cpI 1 = 248 from rfl]; (have H4 := Aside0.mk (below_then H2.out H2.out.size hB)); clear hB)
          | (go_at_call 41; refine (head_any 1 _).mono ?_; rintro e w5 ⟨rfl, hB⟩; rw [show hdI 1 = 16 from rfl]; (have H5 := Aside0.mk (below_then H2.out H2.out.size hB)); clear hB))
        go_ret
        exact ⟨by (rw [h.out]) <;> rfl, H5.out⟩
      · have d1 : decide (size ≤ 32) = false := decide_eq_false (by omega)
        have d2 : decide (400 < size) = true := decide_eq_true (by omega)
        have h := Aside0.mk (show ovM 1 size = 0 by unfold ovM; rw [if_neg (by omega), if_neg (by omega), if_neg (by omega)])
        clear q q2
        go_enter Try.func11, Try.ntmps11
        go_wp2_with (first
          | (go_at_call 38; refine (gen_any 1 _).mono ?_; rintro e w1 ⟨rfl, rfl⟩; rw [show genB 1 = true from rfl])
          | (go_at_call 39; refine (maxValue_any 1 _).mono ?_; rintro e w2 ⟨rfl, hB⟩; rw [show mvI 1 = 400 from rfl]; (have H2 := Aside0.mk hB); clear hB)
          | (go_at_call 13; refine (single_any 1 _).mono ?_; rintro e w3 ⟨rfl, rfl⟩; rw [show sgB 1 = true from rfl])
          | (go_at_call 40; refine (cap_any 1 w4).mono ?_; rintro e w5 ⟨rfl, hB⟩; rw [show cpI 1 = 248 from rfl]; (have H5 := Aside0.mk (below_then H4.out H4.out.size hB)); clear hB)
          | (go_at_call 40; refine (cap_any 1 _).mono ?_; rintro e w4 ⟨rfl, hB⟩; rw [show cpI 1 = 248 from rfl]; (have H4 := Aside0.mk (below_then H2.out H2.out.size hB)); clear hB)
          | (go_at_call 41; refine (head_any 1 _).mono ?_; rintro e w5 ⟨rfl, hB⟩; rw [show hdI 1 = 16 from rfl]; (have H5 := Aside0.mk (below_then H2.out H2.out.size hB)); clear hB))
        go_ret
        exact ⟨by (rw [h.out]) <;> rfl, H2.out⟩
    · have d1 : decide (size ≤ 32) = true := decide_eq_true (by omega)
      have h := Aside0.mk (show ovM 1 size = 0 by unfold ovM; rw [if_neg (by omega), if_neg (by omega), if_neg (by omega)])
      clear q
      go_enter Try.func11, Try.ntmps11
      go_wp2_with (first
        | (go_at_call 38; refine (gen_any 1 _).mono ?_; rintro e w1 ⟨rfl, rfl⟩; rw [show genB 1 = true from rfl])
        | (go_at_call 39; refine (maxValue_any 1 _).mono ?_; rintro e w2 ⟨rfl, hB⟩; rw [show mvI 1 = 400 from rfl]; (have H2 := Aside0.mk hB); clear hB)
        | (go_at_call 13; refine (single_any 1 _).mono ?_; rintro e w3 ⟨rfl, rfl⟩; rw [show sgB 1 = true from rfl])
        | (go_at_call 40; refine (cap_any 1 w4).mono ?_; rintro e w5 ⟨rfl, hB⟩; rw [show cpI 1 = 248 from rfl]; (have H5 := Aside0.mk (below_then H4.out H4.out.size hB)); clear hB)
        | (go_at_call 40; refine (cap_any 1 _).mono ?_; rintro e w4 ⟨rfl, hB⟩; rw [show cpI 1 = 248 from rfl]; (have H4 := Aside0.mk (below_then H2.out H2.out.size hB)); clear hB)
        | (go_at_call 41; refine (head_any 1 _).mono ?_; rintro e w5 ⟨rfl, hB⟩; rw [show hdI 1 = 16 from rfl]; (have H5 := Aside0.mk (below_then H2.out H2.out.size hB)); clear hB))
      go_ret
      exact ⟨by (rw [h.out]) <;> rfl, HB0.out⟩
  · by_cases q : 33 ≤ size
    · by_cases q2 : size ≤ 800
      · have d1 : decide (size ≤ 32) = false := decide_eq_false (by omega)
        have d2 : decide (800 < size) = false := decide_eq_false (by omega)
        have h := Aside0.mk (show ovM 2 size = (size + 239) / 240 by unfold ovM; first | rw [if_pos ⟨rfl, q, q2⟩] | rw [if_neg (by omega), if_pos ⟨rfl, q, q2⟩] | rw [if_neg (by omega), if_neg (by omega), if_pos ⟨rfl, q, q2⟩])
        have t1 : IntKind.i64.wrap (size + 240) = size + 240 := IntWalk.i64_in _ (by omega)
        have t2 : IntKind.i64.wrap (size + 240 - 1) = size + 239 := (IntWalk.i64_in _ (by omega)).trans (by omega)
        have t4 : Int.tdiv (size + 239) 240 = (size + 239) / 240 := Int.tdiv_eq_ediv_of_nonneg (by omega)
        have t5 : IntKind.i64.wrap ((size + 239) / 240) = (size + 239) / 240 := IntWalk.i64_in _ (by omega)
        clear q q2
        go_enter Try.func11, Try.ntmps11
        go_wp2_with (first
          | (go_at_call 38; refine (gen_any 2 _).mono ?_; rintro e w1 ⟨rfl, rfl⟩; rw [show genB 2 = true from rfl])
          | (go_at_call 39; refine (maxValue_any 2 _).mono ?_; rintro e w2 ⟨rfl, hB⟩; rw [show mvI 2 = 800 from rfl]; (have H2 := Aside0.mk hB); clear hB)
          | (go_at_call 13; refine (single_any 2 _).mono ?_; rintro e w3 ⟨rfl, rfl⟩; rw [show sgB 2 = true from rfl])
          | (go_at_call 40; refine (cap_any 2 w4).mono ?_; rintro e w5 ⟨rfl, hB⟩; rw [show cpI 2 = 240 from rfl]; (have H5 := Aside0.mk (below_then H4.out H4.out.size hB)); clear hB)
          | (go_at_call 40; refine (cap_any 2 _).mono ?_; rintro e w4 ⟨rfl, hB⟩; rw [show cpI 2 = 240 from rfl]; (have H4 := Aside0.mk (below_then H2.out H2.out.size hB)); clear hB)
          | (go_at_call 41; refine (head_any 2 _).mono ?_; rintro e w5 ⟨rfl, hB⟩; rw [show hdI 2 = 16 from rfl]; (have H5 := Aside0.mk (below_then H2.out H2.out.size hB)); clear hB))
        go_ret
        exact ⟨by (rw [h.out]) <;> rfl, H5.out⟩
      · have d1 : decide (size ≤ 32) = false := decide_eq_false (by omega)
        have d2 : decide (800 < size) = true := decide_eq_true (by omega)
        have h := Aside0.mk (show ovM 2 size = 0 by unfold ovM; rw [if_neg (by omega), if_neg (by omega), if_neg (by omega)])
        clear q q2
        go_enter Try.func11, Try.ntmps11
        go_wp2_with (first
          | (go_at_call 38; refine (gen_any 2 _).mono ?_; rintro e w1 ⟨rfl, rfl⟩; rw [show genB 2 = true from rfl])
          | (go_at_call 39; refine (maxValue_any 2 _).mono ?_; rintro e w2 ⟨rfl, hB⟩; rw [show mvI 2 = 800 from rfl]; (have H2 := Aside0.mk hB); clear hB)
          | (go_at_call 13; refine (single_any 2 _).mono ?_; rintro e w3 ⟨rfl, rfl⟩; rw [show sgB 2 = true from rfl])
          | (go_at_call 40; refine (cap_any 2 w4).mono ?_; rintro e w5 ⟨rfl, hB⟩; rw [show cpI 2 = 240 from rfl]; (have H5 := Aside0.mk (below_then H4.out H4.out.size hB)); clear hB)
          | (go_at_call 40; refine (cap_any 2 _).mono ?_; rintro e w4 ⟨rfl, hB⟩; rw [show cpI 2 = 240 from rfl]; (have H4 := Aside0.mk (below_then H2.out H2.out.size hB)); clear hB)
          | (go_at_call 41; refine (head_any 2 _).mono ?_; rintro e w5 ⟨rfl, hB⟩; rw [show hdI 2 = 16 from rfl]; (have H5 := Aside0.mk (below_then H2.out H2.out.size hB)); clear hB))
        go_ret
        exact ⟨by (rw [h.out]) <;> rfl, H2.out⟩
    · have d1 : decide (size ≤ 32) = true := decide_eq_true (by omega)
      have h := Aside0.mk (show ovM 2 size = 0 by unfold ovM; rw [if_neg (by omega), if_neg (by omega), if_neg (by omega)])
      clear q
      go_enter Try.func11, Try.ntmps11
      go_wp2_with (first
        | (go_at_call 38; refine (gen_any 2 _).mono ?_; rintro e w1 ⟨rfl, rfl⟩; rw [show genB 2 = true from rfl])
        | (go_at_call 39; refine (maxValue_any 2 _).mono ?_; rintro e w2 ⟨rfl, hB⟩; rw [show mvI 2 = 800 from rfl]; (have H2 := Aside0.mk hB); clear hB)
        | (go_at_call 13; refine (single_any 2 _).mono ?_; rintro e w3 ⟨rfl, rfl⟩; rw [show sgB 2 = true from rfl])
        | (go_at_call 40; refine (cap_any 2 w4).mono ?_; rintro e w5 ⟨rfl, hB⟩; rw [show cpI 2 = 240 from rfl]; (have H5 := Aside0.mk (below_then H4.out H4.out.size hB)); clear hB)
        | (go_at_call 40; refine (cap_any 2 _).mono ?_; rintro e w4 ⟨rfl, hB⟩; rw [show cpI 2 = 240 from rfl]; (have H4 := Aside0.mk (below_then H2.out H2.out.size hB)); clear hB)
        | (go_at_call 41; refine (head_any 2 _).mono ?_; rintro e w5 ⟨rfl, hB⟩; rw [show hdI 2 = 16 from rfl]; (have H5 := Aside0.mk (below_then H2.out H2.out.size hB)); clear hB))
      go_ret
      exact ⟨by (rw [h.out]) <;> rfl, HB0.out⟩
  · by_cases q : 33 ≤ size
    · by_cases q2 : size ≤ 1600
      · have d1 : decide (size ≤ 32) = false := decide_eq_false (by omega)
        have d2 : decide (1600 < size) = false := decide_eq_false (by omega)
        have h := Aside0.mk (show ovM 3 size = (size + 271) / 256 by unfold ovM; first | rw [if_pos ⟨rfl, q, q2⟩] | rw [if_neg (by omega), if_pos ⟨rfl, q, q2⟩] | rw [if_neg (by omega), if_neg (by omega), if_pos ⟨rfl, q, q2⟩])
        have t1 : IntKind.i64.wrap (size + 16) = size + 16 := IntWalk.i64_in _ (by omega)
        have t2 : IntKind.i64.wrap (size + 16 + 256) = size + 272 := (IntWalk.i64_in _ (by omega)).trans (by omega)
        have t3 : IntKind.i64.wrap (size + 272 - 1) = size + 271 := (IntWalk.i64_in _ (by omega)).trans (by omega)
        have t4 : Int.tdiv (size + 271) 256 = (size + 271) / 256 := Int.tdiv_eq_ediv_of_nonneg (by omega)
        have t5 : IntKind.i64.wrap ((size + 271) / 256) = (size + 271) / 256 := IntWalk.i64_in _ (by omega)
        clear q q2
        go_enter Try.func11, Try.ntmps11
        go_wp2_with (first
          | (go_at_call 38; refine (gen_any 3 _).mono ?_; rintro e w1 ⟨rfl, rfl⟩; rw [show genB 3 = true from rfl])
          | (go_at_call 39; refine (maxValue_any 3 _).mono ?_; rintro e w2 ⟨rfl, hB⟩; rw [show mvI 3 = 1600 from rfl]; (have H2 := Aside0.mk hB); clear hB)
          | (go_at_call 13; refine (single_any 3 _).mono ?_; rintro e w3 ⟨rfl, rfl⟩; rw [show sgB 3 = false from rfl])
          | (go_at_call 40; refine (cap_any 3 w4).mono ?_; rintro e w5 ⟨rfl, hB⟩; rw [show cpI 3 = 240 from rfl]; (have H5 := Aside0.mk (below_then H4.out H4.out.size hB)); clear hB)
          | (go_at_call 40; refine (cap_any 3 _).mono ?_; rintro e w4 ⟨rfl, hB⟩; rw [show cpI 3 = 240 from rfl]; (have H4 := Aside0.mk (below_then H2.out H2.out.size hB)); clear hB)
          | (go_at_call 41; refine (head_any 3 _).mono ?_; rintro e w5 ⟨rfl, hB⟩; rw [show hdI 3 = 16 from rfl]; (have H5 := Aside0.mk (below_then H2.out H2.out.size hB)); clear hB))
        go_ret
        exact ⟨by (rw [h.out]) <;> rfl, H5.out⟩
      · have d1 : decide (size ≤ 32) = false := decide_eq_false (by omega)
        have d2 : decide (1600 < size) = true := decide_eq_true (by omega)
        have h := Aside0.mk (show ovM 3 size = 0 by unfold ovM; rw [if_neg (by omega), if_neg (by omega), if_neg (by omega)])
        clear q q2
        go_enter Try.func11, Try.ntmps11
        go_wp2_with (first
          | (go_at_call 38; refine (gen_any 3 _).mono ?_; rintro e w1 ⟨rfl, rfl⟩; rw [show genB 3 = true from rfl])
          | (go_at_call 39; refine (maxValue_any 3 _).mono ?_; rintro e w2 ⟨rfl, hB⟩; rw [show mvI 3 = 1600 from rfl]; (have H2 := Aside0.mk hB); clear hB)
          | (go_at_call 13; refine (single_any 3 _).mono ?_; rintro e w3 ⟨rfl, rfl⟩; rw [show sgB 3 = false from rfl])
          | (go_at_call 40; refine (cap_any 3 w4).mono ?_; rintro e w5 ⟨rfl, hB⟩; rw [show cpI 3 = 240 from rfl]; (have H5 := Aside0.mk (below_then H4.out H4.out.size hB)); clear hB)
          | (go_at_call 40; refine (cap_any 3 _).mono ?_; rintro e w4 ⟨rfl, hB⟩; rw [show cpI 3 = 240 from rfl]; (have H4 := Aside0.mk (below_then H2.out H2.out.size hB)); clear hB)
          | (go_at_call 41; refine (head_any 3 _).mono ?_; rintro e w5 ⟨rfl, hB⟩; rw [show hdI 3 = 16 from rfl]; (have H5 := Aside0.mk (below_then H2.out H2.out.size hB)); clear hB))
        go_ret
        exact ⟨by (rw [h.out]) <;> rfl, H2.out⟩
    · have d1 : decide (size ≤ 32) = true := decide_eq_true (by omega)
      have h := Aside0.mk (show ovM 3 size = 0 by unfold ovM; rw [if_neg (by omega), if_neg (by omega), if_neg (by omega)])
      clear q
      go_enter Try.func11, Try.ntmps11
      go_wp2_with (first
        | (go_at_call 38; refine (gen_any 3 _).mono ?_; rintro e w1 ⟨rfl, rfl⟩; rw [show genB 3 = true from rfl])
        | (go_at_call 39; refine (maxValue_any 3 _).mono ?_; rintro e w2 ⟨rfl, hB⟩; rw [show mvI 3 = 1600 from rfl]; (have H2 := Aside0.mk hB); clear hB)
        | (go_at_call 13; refine (single_any 3 _).mono ?_; rintro e w3 ⟨rfl, rfl⟩; rw [show sgB 3 = false from rfl])
        | (go_at_call 40; refine (cap_any 3 w4).mono ?_; rintro e w5 ⟨rfl, hB⟩; rw [show cpI 3 = 240 from rfl]; (have H5 := Aside0.mk (below_then H4.out H4.out.size hB)); clear hB)
        | (go_at_call 40; refine (cap_any 3 _).mono ?_; rintro e w4 ⟨rfl, hB⟩; rw [show cpI 3 = 240 from rfl]; (have H4 := Aside0.mk (below_then H2.out H2.out.size hB)); clear hB)
        | (go_at_call 41; refine (head_any 3 _).mono ?_; rintro e w5 ⟨rfl, hB⟩; rw [show hdI 3 = 16 from rfl]; (have H5 := Aside0.mk (below_then H2.out H2.out.size hB)); clear hB))
      go_ret
      exact ⟨by (rw [h.out]) <;> rfl, HB0.out⟩
  · have h := Aside0.mk (show ovM g size = 0 by unfold ovM; rw [if_neg (by omega), if_neg (by omega), if_neg (by omega)])
    have hb : genB g = false := decide_eq_false hg
    clear hg
    go_enter Try.func11, Try.ntmps11
    go_wp2_with (go_at_call 38; refine (gen_any g _).mono ?_; rintro e w1 ⟨rfl, rfl⟩; rw [hb])
    go_ret
    exact ⟨by (rw [h.out]) <;> rfl, HB0.out⟩
set_option maxHeartbeats 4000000 in
set_option maxRecDepth 100000 in
theorem rMany_any (g size : Int) (w : World) : Calls Try.prog 15 #[.int .i64 g, .int .i64 size] w fun e w' => e = .returned (.int .i64 (ovM g size)) ∧ w = w' := by
  rcases gen_cases g with rfl | rfl | rfl | hg
  · by_cases q : 33 ≤ size
    · by_cases q2 : size ≤ 400
      · have d1 : decide (size < 33) = false := decide_eq_false (by omega)
        have d2 : decide (400 < size) = false := decide_eq_false (by omega)
        have h := Aside0.mk (show ovM 1 size = (size + 247) / 248 by unfold ovM; first | rw [if_pos ⟨rfl, q, q2⟩] | rw [if_neg (by omega), if_pos ⟨rfl, q, q2⟩] | rw [if_neg (by omega), if_neg (by omega), if_pos ⟨rfl, q, q2⟩])
        obtain ⟨N, hN⟩ := Int.eq_ofNat_of_zero_le (show 0 ≤ (size + 247) / 248 by omega)
        have HN := Aside0.mk hN
        have t0 : IntKind.i64.wrap (size + 16) = size + 16 := IntWalk.i64_in _ (by omega)
        have HQ := Aside0.mk (And.intro q q2)
        clear q q2 hN
        go_enter Try.func15, Try.ntmps15
        go_wp2_with (go_at_call 45; refine (rMaxValue_any 1 _).mono ?_; rintro e w1 ⟨rfl, rfl⟩; rw [show mvI 1 = 400 from rfl])
        go_loopg [5, 6] N (fun gk v5 v6 wr => ∃ k : Nat, Aside (gk + k = N) ∧ v5 = .int .i64 (k : Int) ∧ v6 = .int .i64 (size - 248 * (k : Int)) ∧ wr = w)
        case atStart => exact ⟨0, by rfl, rfl, by simp, rfl⟩
        case round =>
          obtain ⟨k, hk, rfl, rfl, rfl⟩ := hrel
          have hN := HN.out
          have hQ := HQ.out
          rcases Nat.lt_or_ge k N with hlt | hge
          · have d3 : decide (248 * (k : Int) < size) = true := decide_eq_true (by omega)
            have d3n : 248 * (k : Int) < size := by omega
            have hk8 : k < 8 := by omega
            have t6 : IntKind.i64.wrap ((k : Int) + 1) = ((k + 1 : Nat) : Int) := IntWalk.i64_in _ (by omega)
            have t1 : IntKind.i64.wrap (size - 248 * (k : Int) - 248) = size - 248 * (((k + 1 : Nat) : Int)) := (IntWalk.i64_in _ (by omega)).trans (by omega)
            clear hN hQ
            go_wp2_with (go_at_call 14; refine (rCap_any 1 _).mono ?_; rintro e w1 ⟨rfl, rfl⟩; rw [show cpI 1 = 248 from rfl])
            go_roundg (N - (k + 1))
            case measure => have := hk.out; omega
            case rel => exact ⟨k + 1, (by show N - (k + 1) + (k + 1) = N; omega), by go_num, by first | rfl | go_num, rfl⟩
          · obtain rfl : N = k := by have := hk.out; omega
            have d3 : decide (248 * (N : Int) < size) = false := decide_eq_false (by omega)
            have d3n : ¬ (248 * (N : Int) < size) := by omega
            have d3m : size ≤ 248 * (N : Int) := by omega
            clear hN hQ
            go_wp2_with fail
            go_ret
            exact ⟨by (rw [h.out, HN.out]) <;> rfl, rfl⟩
      · have d1 : decide (size < 33) = false := decide_eq_false (by omega)
        have d2 : decide (400 < size) = true := decide_eq_true (by omega)
        have h := Aside0.mk (show ovM 1 size = 0 by unfold ovM; rw [if_neg (by omega), if_neg (by omega), if_neg (by omega)])
        clear q q2
        go_enter Try.func15, Try.ntmps15
        go_wp2_with (go_at_call 45; refine (rMaxValue_any 1 _).mono ?_; rintro e w1 ⟨rfl, rfl⟩; rw [show mvI 1 = 400 from rfl])
        go_ret
        exact ⟨by (rw [h.out]) <;> rfl, rfl⟩
    · have d1 : decide (size < 33) = true := decide_eq_true (by omega)
      have h := Aside0.mk (show ovM 1 size = 0 by unfold ovM; rw [if_neg (by omega), if_neg (by omega), if_neg (by omega)])
      clear q
      go_enter Try.func15, Try.ntmps15
      go_wp2_with fail
      go_ret
      exact ⟨by (rw [h.out]) <;> rfl, rfl⟩
  · by_cases q : 33 ≤ size
    · by_cases q2 : size ≤ 800
      · have d1 : decide (size < 33) = false := decide_eq_false (by omega)
        have d2 : decide (800 < size) = false := decide_eq_false (by omega)
        have h := Aside0.mk (show ovM 2 size = (size + 239) / 240 by unfold ovM; first | rw [if_pos ⟨rfl, q, q2⟩] | rw [if_neg (by omega), if_pos ⟨rfl, q, q2⟩] | rw [if_neg (by omega), if_neg (by omega), if_pos ⟨rfl, q, q2⟩])
        obtain ⟨N, hN⟩ := Int.eq_ofNat_of_zero_le (show 0 ≤ (size + 239) / 240 by omega)
        have HN := Aside0.mk hN
        have t0 : IntKind.i64.wrap (size + 16) = size + 16 := IntWalk.i64_in _ (by omega)
        have HQ := Aside0.mk (And.intro q q2)
        clear q q2 hN
        go_enter Try.func15, Try.ntmps15
        go_wp2_with (go_at_call 45; refine (rMaxValue_any 2 _).mono ?_; rintro e w1 ⟨rfl, rfl⟩; rw [show mvI 2 = 800 from rfl])
        go_loopg [5, 6] N (fun gk v5 v6 wr => ∃ k : Nat, Aside (gk + k = N) ∧ v5 = .int .i64 (k : Int) ∧ v6 = .int .i64 (size - 240 * (k : Int)) ∧ wr = w)
        case atStart => exact ⟨0, by rfl, rfl, by simp, rfl⟩
        case round =>
          obtain ⟨k, hk, rfl, rfl, rfl⟩ := hrel
          have hN := HN.out
          have hQ := HQ.out
          rcases Nat.lt_or_ge k N with hlt | hge
          · have d3 : decide (240 * (k : Int) < size) = true := decide_eq_true (by omega)
            have d3n : 240 * (k : Int) < size := by omega
            have hk8 : k < 8 := by omega
            have t6 : IntKind.i64.wrap ((k : Int) + 1) = ((k + 1 : Nat) : Int) := IntWalk.i64_in _ (by omega)
            have t1 : IntKind.i64.wrap (size - 240 * (k : Int) - 240) = size - 240 * (((k + 1 : Nat) : Int)) := (IntWalk.i64_in _ (by omega)).trans (by omega)
            clear hN hQ
            go_wp2_with (go_at_call 14; refine (rCap_any 2 _).mono ?_; rintro e w1 ⟨rfl, rfl⟩; rw [show cpI 2 = 240 from rfl])
            go_roundg (N - (k + 1))
            case measure => have := hk.out; omega
            case rel => exact ⟨k + 1, (by show N - (k + 1) + (k + 1) = N; omega), by go_num, by first | rfl | go_num, rfl⟩
          · obtain rfl : N = k := by have := hk.out; omega
            have d3 : decide (240 * (N : Int) < size) = false := decide_eq_false (by omega)
            have d3n : ¬ (240 * (N : Int) < size) := by omega
            have d3m : size ≤ 240 * (N : Int) := by omega
            clear hN hQ
            go_wp2_with fail
            go_ret
            exact ⟨by (rw [h.out, HN.out]) <;> rfl, rfl⟩
      · have d1 : decide (size < 33) = false := decide_eq_false (by omega)
        have d2 : decide (800 < size) = true := decide_eq_true (by omega)
        have h := Aside0.mk (show ovM 2 size = 0 by unfold ovM; rw [if_neg (by omega), if_neg (by omega), if_neg (by omega)])
        clear q q2
        go_enter Try.func15, Try.ntmps15
        go_wp2_with (go_at_call 45; refine (rMaxValue_any 2 _).mono ?_; rintro e w1 ⟨rfl, rfl⟩; rw [show mvI 2 = 800 from rfl])
        go_ret
        exact ⟨by (rw [h.out]) <;> rfl, rfl⟩
    · have d1 : decide (size < 33) = true := decide_eq_true (by omega)
      have h := Aside0.mk (show ovM 2 size = 0 by unfold ovM; rw [if_neg (by omega), if_neg (by omega), if_neg (by omega)])
      clear q
      go_enter Try.func15, Try.ntmps15
      go_wp2_with fail
      go_ret
      exact ⟨by (rw [h.out]) <;> rfl, rfl⟩
  · by_cases q : 33 ≤ size
    · by_cases q2 : size ≤ 1600
      · have d1 : decide (size < 33) = false := decide_eq_false (by omega)
        have d2 : decide (1600 < size) = false := decide_eq_false (by omega)
        have h := Aside0.mk (show ovM 3 size = (size + 271) / 256 by unfold ovM; first | rw [if_pos ⟨rfl, q, q2⟩] | rw [if_neg (by omega), if_pos ⟨rfl, q, q2⟩] | rw [if_neg (by omega), if_neg (by omega), if_pos ⟨rfl, q, q2⟩])
        obtain ⟨N, hN⟩ := Int.eq_ofNat_of_zero_le (show 0 ≤ (size + 271) / 256 by omega)
        have HN := Aside0.mk hN
        have t0 : IntKind.i64.wrap (size + 16) = size + 16 := IntWalk.i64_in _ (by omega)
        have HQ := Aside0.mk (And.intro q q2)
        clear q q2 hN
        go_enter Try.func15, Try.ntmps15
        go_wp2_with (go_at_call 45; refine (rMaxValue_any 3 _).mono ?_; rintro e w1 ⟨rfl, rfl⟩; rw [show mvI 3 = 1600 from rfl])
        go_loopg [5, 6] N (fun gk v5 v6 wr => ∃ k : Nat, Aside (gk + k = N) ∧ v5 = .int .i64 (k : Int) ∧ v6 = .int .i64 ((size + 16) - 256 * (k : Int)) ∧ wr = w)
        case atStart => exact ⟨0, by rfl, rfl, by simp, rfl⟩
        case round =>
          obtain ⟨k, hk, rfl, rfl, rfl⟩ := hrel
          have hN := HN.out
          have hQ := HQ.out
          rcases Nat.lt_or_ge k N with hlt | hge
          · have d3 : decide (256 * (k : Int) < (size + 16)) = true := decide_eq_true (by omega)
            have d3n : 256 * (k : Int) < (size + 16) := by omega
            have hk8 : k < 8 := by omega
            have t6 : IntKind.i64.wrap ((k : Int) + 1) = ((k + 1 : Nat) : Int) := IntWalk.i64_in _ (by omega)
            have t1 : IntKind.i64.wrap ((size + 16) - 256 * (k : Int) - 256) = (size + 16) - 256 * (((k + 1 : Nat) : Int)) := (IntWalk.i64_in _ (by omega)).trans (by omega)
            clear hN hQ
            go_wp2_with fail
            go_roundg (N - (k + 1))
            case measure => have := hk.out; omega
            case rel => exact ⟨k + 1, (by show N - (k + 1) + (k + 1) = N; omega), by go_num, by first | rfl | go_num, rfl⟩
          · obtain rfl : N = k := by have := hk.out; omega
            have d3 : decide (256 * (N : Int) < (size + 16)) = false := decide_eq_false (by omega)
            have d3n : ¬ (256 * (N : Int) < (size + 16)) := by omega
            have d3m : (size + 16) ≤ 256 * (N : Int) := by omega
            clear hN hQ
            go_wp2_with fail
            go_ret
            exact ⟨by (rw [h.out, HN.out]) <;> rfl, rfl⟩
      · have d1 : decide (size < 33) = false := decide_eq_false (by omega)
        have d2 : decide (1600 < size) = true := decide_eq_true (by omega)
        have h := Aside0.mk (show ovM 3 size = 0 by unfold ovM; rw [if_neg (by omega), if_neg (by omega), if_neg (by omega)])
        clear q q2
        go_enter Try.func15, Try.ntmps15
        go_wp2_with (go_at_call 45; refine (rMaxValue_any 3 _).mono ?_; rintro e w1 ⟨rfl, rfl⟩; rw [show mvI 3 = 1600 from rfl])
        go_ret
        exact ⟨by (rw [h.out]) <;> rfl, rfl⟩
    · have d1 : decide (size < 33) = true := decide_eq_true (by omega)
      have h := Aside0.mk (show ovM 3 size = 0 by unfold ovM; rw [if_neg (by omega), if_neg (by omega), if_neg (by omega)])
      clear q
      go_enter Try.func15, Try.ntmps15
      go_wp2_with fail
      go_ret
      exact ⟨by (rw [h.out]) <;> rfl, rfl⟩
  · have h := Aside0.mk (show ovM g size = 0 by unfold ovM; rw [if_neg (by omega), if_neg (by omega), if_neg (by omega)])
    by_cases q : g < 1
    · have d1 : decide (g < 1) = true := decide_eq_true q
      clear hg q
      go_enter Try.func15, Try.ntmps15
      go_wp2_with fail
      go_ret
      exact ⟨by (rw [h.out]) <;> rfl, rfl⟩
    · have d1 : decide (g < 1) = false := decide_eq_false q
      have d2 : decide (3 < g) = true := decide_eq_true (by omega)
      clear hg q
      go_enter Try.func15, Try.ntmps15
      go_wp2_with fail
      go_ret
      exact ⟨by (rw [h.out]) <;> rfl, rfl⟩
end Go.Proofs.Ytbjfklgmbeaaoaa
