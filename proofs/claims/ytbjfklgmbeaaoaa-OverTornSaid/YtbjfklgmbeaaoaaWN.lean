/- The law OverMany: how many pages a value has. -/
import Derived.Test.YtbjfklgmbeaaoaaWM
set_option linter.unusedVariables false
set_option linter.unusedSimpArgs false
namespace Go.Proofs.Ytbjfklgmbeaaoaa
open Go.RowKit

theorem ovM_out {g m : Int} (h : ¬ (1 ≤ g ∧ g ≤ 3)) : ovM g m = 0 := by
  have h1 := ovM_hi g m
  by_cases q : 0 < ovM g m
  · have := ovM_in q
    omega
  · omega
set_option maxHeartbeats 8000000 in
set_option maxRecDepth 100000 in
theorem overManyLaw_any (g size : Int) (w : World) (hg : -9223372036854775808 ≤ g ∧ g ≤ 9223372036854775807) (hs : -9223372036854775808 ≤ size ∧ size ≤ 9223372036854775807) :
    Calls Try.prog 3 #[.int .i64 g, .int .i64 size] w fun e w' => e = .returned (.bool true) ∧ Below w.heap.size w w' := by
  rcases gen_cases g with rfl | rfl | rfl | hn
  · by_cases q : ovM 1 size = 0
    · have HM := Aside0.mk q
      clear q
      go_enter Try.func3, Try.ntmps3
      go_wp2_with (first
        | (go_at_call 11; refine (overMany_any 1 size _).mono ?_; rintro e w1 ⟨rfl, hB⟩; rw [HM.out]; (have H1 := Aside0.mk hB); clear hB)
        | (go_at_call 12; refine (alive08_any _).mono ?_; rintro e w2 ⟨rfl, hB⟩; (have H2 := Aside0.mk (below_then H1.out H1.out.size hB)); clear hB)
        | (go_at_call 15; refine (rMany_any 1 size _).mono ?_; rintro e w3 ⟨rfl, rfl⟩; rw [HM.out])
        | (go_at_call 13; refine (single_any 1 _).mono ?_; rintro e w4 ⟨rfl, rfl⟩; rw [show sgB 1 = true from rfl])
        | (go_at_call 14; refine (rCap_any 1 _).mono ?_; rintro e w5 ⟨rfl, rfl⟩; rw [show cpI 1 = 248 from rfl]))
      go_ret
      exact ⟨rfl, H2.out⟩
    · obtain ⟨mm, hmm⟩ : ∃ x, ovM 1 size = x := ⟨_, rfl⟩
      have HM := Aside0.mk hmm
      rw [hmm] at q
      have hin := ovM_in (g := 1) (m := size) (by have := (ovM_hi 1 size).2; omega)
      have hhi := ovM_hi 1 size
      rw [hmm] at hhi
      have hform : 248 * mm ≥ size + 0 ∧ 248 * (mm - 1) < size + 0 := by
        unfold ovM at hmm
        split at hmm
        · omega
        · split at hmm
          · omega
          · split at hmm
            · omega
            · omega
      have n0 : (mm == 0) = false := beq_eq_false_iff_ne.2 q
      have t1 : IntKind.i64.wrap (mm * 248) = mm * 248 := IntWalk.i64_in _ (by omega)
      have t2 : IntKind.i64.wrap (size + 0) = size + 0 := IntWalk.i64_in _ (by omega)
      have t2' : IntKind.i64.wrap size = size := IntWalk.i64_in _ (by omega)
      have t3 : IntKind.i64.wrap (mm - 1) = mm - 1 := IntWalk.i64_in _ (by omega)
      have t4 : IntKind.i64.wrap ((mm - 1) * 248) = (mm - 1) * 248 := IntWalk.i64_in _ (by omega)
      have d1 : decide (size + 0 ≤ mm * 248) = true := decide_eq_true (by omega)
      have d2 : decide ((mm - 1) * 248 < size + 0) = true := decide_eq_true (by omega)
      have e1 : size + 0 ≤ mm * 248 := by omega
      have e2 : (mm - 1) * 248 < size + 0 := by omega
      have d1' : decide (size ≤ mm * 248) = true := decide_eq_true (by omega)
      have d2' : decide ((mm - 1) * 248 < size) = true := decide_eq_true (by omega)
      clear hmm hin hhi hform q
      go_enter Try.func3, Try.ntmps3
      go_wp2_with (first
        | (go_at_call 11; refine (overMany_any 1 size _).mono ?_; rintro e w1 ⟨rfl, hB⟩; rw [HM.out]; (have H1 := Aside0.mk hB); clear hB)
        | (go_at_call 12; refine (alive08_any _).mono ?_; rintro e w2 ⟨rfl, hB⟩; (have H2 := Aside0.mk (below_then H1.out H1.out.size hB)); clear hB)
        | (go_at_call 15; refine (rMany_any 1 size _).mono ?_; rintro e w3 ⟨rfl, rfl⟩; rw [HM.out])
        | (go_at_call 13; refine (single_any 1 _).mono ?_; rintro e w4 ⟨rfl, rfl⟩; rw [show sgB 1 = true from rfl])
        | (go_at_call 14; refine (rCap_any 1 _).mono ?_; rintro e w5 ⟨rfl, rfl⟩; rw [show cpI 1 = 248 from rfl]))
      go_ret
      exact ⟨rfl, H2.out⟩
  · by_cases q : ovM 2 size = 0
    · have HM := Aside0.mk q
      clear q
      go_enter Try.func3, Try.ntmps3
      go_wp2_with (first
        | (go_at_call 11; refine (overMany_any 2 size _).mono ?_; rintro e w1 ⟨rfl, hB⟩; rw [HM.out]; (have H1 := Aside0.mk hB); clear hB)
        | (go_at_call 12; refine (alive08_any _).mono ?_; rintro e w2 ⟨rfl, hB⟩; (have H2 := Aside0.mk (below_then H1.out H1.out.size hB)); clear hB)
        | (go_at_call 15; refine (rMany_any 2 size _).mono ?_; rintro e w3 ⟨rfl, rfl⟩; rw [HM.out])
        | (go_at_call 13; refine (single_any 2 _).mono ?_; rintro e w4 ⟨rfl, rfl⟩; rw [show sgB 2 = true from rfl])
        | (go_at_call 14; refine (rCap_any 2 _).mono ?_; rintro e w5 ⟨rfl, rfl⟩; rw [show cpI 2 = 240 from rfl]))
      go_ret
      exact ⟨rfl, H2.out⟩
    · obtain ⟨mm, hmm⟩ : ∃ x, ovM 2 size = x := ⟨_, rfl⟩
      have HM := Aside0.mk hmm
      rw [hmm] at q
      have hin := ovM_in (g := 2) (m := size) (by have := (ovM_hi 2 size).2; omega)
      have hhi := ovM_hi 2 size
      rw [hmm] at hhi
      have hform : 240 * mm ≥ size + 0 ∧ 240 * (mm - 1) < size + 0 := by
        unfold ovM at hmm
        split at hmm
        · omega
        · split at hmm
          · omega
          · split at hmm
            · omega
            · omega
      have n0 : (mm == 0) = false := beq_eq_false_iff_ne.2 q
      have t1 : IntKind.i64.wrap (mm * 240) = mm * 240 := IntWalk.i64_in _ (by omega)
      have t2 : IntKind.i64.wrap (size + 0) = size + 0 := IntWalk.i64_in _ (by omega)
      have t2' : IntKind.i64.wrap size = size := IntWalk.i64_in _ (by omega)
      have t3 : IntKind.i64.wrap (mm - 1) = mm - 1 := IntWalk.i64_in _ (by omega)
      have t4 : IntKind.i64.wrap ((mm - 1) * 240) = (mm - 1) * 240 := IntWalk.i64_in _ (by omega)
      have d1 : decide (size + 0 ≤ mm * 240) = true := decide_eq_true (by omega)
      have d2 : decide ((mm - 1) * 240 < size + 0) = true := decide_eq_true (by omega)
      have e1 : size + 0 ≤ mm * 240 := by omega
      have e2 : (mm - 1) * 240 < size + 0 := by omega
      have d1' : decide (size ≤ mm * 240) = true := decide_eq_true (by omega)
      have d2' : decide ((mm - 1) * 240 < size) = true := decide_eq_true (by omega)
      clear hmm hin hhi hform q
      go_enter Try.func3, Try.ntmps3
      go_wp2_with (first
        | (go_at_call 11; refine (overMany_any 2 size _).mono ?_; rintro e w1 ⟨rfl, hB⟩; rw [HM.out]; (have H1 := Aside0.mk hB); clear hB)
        | (go_at_call 12; refine (alive08_any _).mono ?_; rintro e w2 ⟨rfl, hB⟩; (have H2 := Aside0.mk (below_then H1.out H1.out.size hB)); clear hB)
        | (go_at_call 15; refine (rMany_any 2 size _).mono ?_; rintro e w3 ⟨rfl, rfl⟩; rw [HM.out])
        | (go_at_call 13; refine (single_any 2 _).mono ?_; rintro e w4 ⟨rfl, rfl⟩; rw [show sgB 2 = true from rfl])
        | (go_at_call 14; refine (rCap_any 2 _).mono ?_; rintro e w5 ⟨rfl, rfl⟩; rw [show cpI 2 = 240 from rfl]))
      go_ret
      exact ⟨rfl, H2.out⟩
  · by_cases q : ovM 3 size = 0
    · have HM := Aside0.mk q
      clear q
      go_enter Try.func3, Try.ntmps3
      go_wp2_with (first
        | (go_at_call 11; refine (overMany_any 3 size _).mono ?_; rintro e w1 ⟨rfl, hB⟩; rw [HM.out]; (have H1 := Aside0.mk hB); clear hB)
        | (go_at_call 12; refine (alive08_any _).mono ?_; rintro e w2 ⟨rfl, hB⟩; (have H2 := Aside0.mk (below_then H1.out H1.out.size hB)); clear hB)
        | (go_at_call 15; refine (rMany_any 3 size _).mono ?_; rintro e w3 ⟨rfl, rfl⟩; rw [HM.out])
        | (go_at_call 13; refine (single_any 3 _).mono ?_; rintro e w4 ⟨rfl, rfl⟩; rw [show sgB 3 = false from rfl])
        | (go_at_call 14; refine (rCap_any 3 _).mono ?_; rintro e w5 ⟨rfl, rfl⟩; rw [show cpI 3 = 240 from rfl]))
      go_ret
      exact ⟨rfl, H2.out⟩
    · obtain ⟨mm, hmm⟩ : ∃ x, ovM 3 size = x := ⟨_, rfl⟩
      have HM := Aside0.mk hmm
      rw [hmm] at q
      have hin := ovM_in (g := 3) (m := size) (by have := (ovM_hi 3 size).2; omega)
      have hhi := ovM_hi 3 size
      rw [hmm] at hhi
      have hform : 256 * mm ≥ size + 16 ∧ 256 * (mm - 1) < size + 16 := by
        unfold ovM at hmm
        split at hmm
        · omega
        · split at hmm
          · omega
          · split at hmm
            · omega
            · omega
      have n0 : (mm == 0) = false := beq_eq_false_iff_ne.2 q
      have t1 : IntKind.i64.wrap (mm * 256) = mm * 256 := IntWalk.i64_in _ (by omega)
      have t2 : IntKind.i64.wrap (size + 16) = size + 16 := IntWalk.i64_in _ (by omega)
      have t2' : IntKind.i64.wrap size = size := IntWalk.i64_in _ (by omega)
      have t3 : IntKind.i64.wrap (mm - 1) = mm - 1 := IntWalk.i64_in _ (by omega)
      have t4 : IntKind.i64.wrap ((mm - 1) * 256) = (mm - 1) * 256 := IntWalk.i64_in _ (by omega)
      have d1 : decide (size + 16 ≤ mm * 256) = true := decide_eq_true (by omega)
      have d2 : decide ((mm - 1) * 256 < size + 16) = true := decide_eq_true (by omega)
      have e1 : size + 16 ≤ mm * 256 := by omega
      have e2 : (mm - 1) * 256 < size + 16 := by omega
      have d1' : decide (size ≤ mm * 256) = true := decide_eq_true (by omega)
      have d2' : decide ((mm - 1) * 256 < size) = decide ((mm - 1) * 256 < size) := rfl
      clear hmm hin hhi hform q
      go_enter Try.func3, Try.ntmps3
      go_wp2_with (first
        | (go_at_call 11; refine (overMany_any 3 size _).mono ?_; rintro e w1 ⟨rfl, hB⟩; rw [HM.out]; (have H1 := Aside0.mk hB); clear hB)
        | (go_at_call 12; refine (alive08_any _).mono ?_; rintro e w2 ⟨rfl, hB⟩; (have H2 := Aside0.mk (below_then H1.out H1.out.size hB)); clear hB)
        | (go_at_call 15; refine (rMany_any 3 size _).mono ?_; rintro e w3 ⟨rfl, rfl⟩; rw [HM.out])
        | (go_at_call 13; refine (single_any 3 _).mono ?_; rintro e w4 ⟨rfl, rfl⟩; rw [show sgB 3 = false from rfl])
        | (go_at_call 14; refine (rCap_any 3 _).mono ?_; rintro e w5 ⟨rfl, rfl⟩; rw [show cpI 3 = 240 from rfl]))
      go_ret
      exact ⟨rfl, H2.out⟩
  · have HM := Aside0.mk (ovM_out (m := size) hn)
    have HSG := Aside0.mk (show sgB g = false from decide_eq_false (by omega))
    by_cases q1 : g < 1
    · have d1 : decide (g < 1) = true := decide_eq_true q1
      clear hn hg hs
      go_enter Try.func3, Try.ntmps3
      go_wp2_with (first
        | (go_at_call 11; refine (overMany_any g size _).mono ?_; rintro e w1 ⟨rfl, hB⟩; rw [HM.out]; (have H1 := Aside0.mk hB); clear hB)
        | (go_at_call 12; refine (alive08_any _).mono ?_; rintro e w2 ⟨rfl, hB⟩; (have H2 := Aside0.mk (below_then H1.out H1.out.size hB)); clear hB)
        | (go_at_call 15; refine (rMany_any g size _).mono ?_; rintro e w3 ⟨rfl, rfl⟩; rw [HM.out])
        | (go_at_call 13; refine (single_any g _).mono ?_; rintro e w4 ⟨rfl, rfl⟩; rw [HSG.out]))
      go_ret
      exact ⟨rfl, H2.out⟩
    · have d1 : decide (g < 1) = false := decide_eq_false q1
      have d2 : decide (3 < g) = true := decide_eq_true (by omega)
      clear hn hg hs
      go_enter Try.func3, Try.ntmps3
      go_wp2_with (first
        | (go_at_call 11; refine (overMany_any g size _).mono ?_; rintro e w1 ⟨rfl, hB⟩; rw [HM.out]; (have H1 := Aside0.mk hB); clear hB)
        | (go_at_call 12; refine (alive08_any _).mono ?_; rintro e w2 ⟨rfl, hB⟩; (have H2 := Aside0.mk (below_then H1.out H1.out.size hB)); clear hB)
        | (go_at_call 15; refine (rMany_any g size _).mono ?_; rintro e w3 ⟨rfl, rfl⟩; rw [HM.out])
        | (go_at_call 13; refine (single_any g _).mono ?_; rintro e w4 ⟨rfl, rfl⟩; rw [HSG.out]))
      go_ret
      exact ⟨rfl, H2.out⟩
end Go.Proofs.Ytbjfklgmbeaaoaa
