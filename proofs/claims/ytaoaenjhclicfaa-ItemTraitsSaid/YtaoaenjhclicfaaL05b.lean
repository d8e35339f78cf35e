/- The walk of the law ItemTraits. -/
import Derived.Test.YtaoaenjhclicfaaL05a
set_option linter.unusedVariables false
set_option linter.unusedSimpArgs false
namespace Go.Proofs.Ytaoaenjhclicfaa
open Go.RowKit

set_option maxHeartbeats 4000000 in
set_option maxRecDepth 100000 in
theorem itemTraits_walk (g : Int) (w : World) (hg0 : -9223372036854775808 ≤ g ∧ g ≤ 9223372036854775807) :
    Calls Try.prog 9 #[.int .i64 g] w fun e w' => e = .returned (.bool true) ∧ Below w.heap.size w w' := by
  clear hg0
  by_cases h1 : g = 1
  · subst h1
    have hg : genB 1 = true := by decide
    go_enter Try.func9, Try.ntmps9
    go_wp2_with (first | (go_at_call 26; refine (alive05_any _).mono ?_; rintro e w1 ⟨rfl, hB⟩; (have HB := Aside0.mk hB); clear hB) | (go_at_call 27; refine (gen_any _ _).mono ?_; rintro e w2 ⟨rfl, rfl⟩; rw [hg]) | (go_at_call 28; refine (maxKey_any _ _).mono ?_; rintro e w3 ⟨rfl, hB⟩; (replace HB := Aside0.mk (below_then HB.out HB.out.size hB)); clear hB) | (go_at_call 29; refine (rMaxKey_any _ _).mono ?_; rintro e w3 ⟨rfl, rfl⟩) | (go_at_call 30; refine (maxValue_any _ _).mono ?_; rintro e w3 ⟨rfl, hB⟩; (replace HB := Aside0.mk (below_then HB.out HB.out.size hB)); clear hB) | (go_at_call 31; refine (rMaxValue_any _ _).mono ?_; rintro e w3 ⟨rfl, rfl⟩) | (go_at_call 32; refine (idWidth_any _ _).mono ?_; rintro e w3 ⟨rfl, hB⟩; (replace HB := Aside0.mk (below_then HB.out HB.out.size hB)); clear hB) | (go_at_call 33; refine (rIdWidth_any _ _).mono ?_; rintro e w3 ⟨rfl, rfl⟩) | (go_at_call 34; refine (head_any _ _).mono ?_; rintro e w3 ⟨rfl, hB⟩; (replace HB := Aside0.mk (below_then HB.out HB.out.size hB)); clear hB) | (go_at_call 35; refine (rHead_any _ _).mono ?_; rintro e w3 ⟨rfl, rfl⟩) | (go_at_call 36; refine (cap_any _ _).mono ?_; rintro e w3 ⟨rfl, hB⟩; (replace HB := Aside0.mk (below_then HB.out HB.out.size hB)); clear hB) | (go_at_call 37; refine (rCap_any _ _).mono ?_; rintro e w3 ⟨rfl, rfl⟩))
    go_ret
    exact ⟨ret_bool (by first | rfl | simp), HB.out⟩
  have e1 : (g == 1) = false := beq_f h1
  by_cases h2 : g = 2
  · subst h2
    have hg : genB 2 = true := by decide
    go_enter Try.func9, Try.ntmps9
    go_wp2_with (first | (go_at_call 26; refine (alive05_any _).mono ?_; rintro e w1 ⟨rfl, hB⟩; (have HB := Aside0.mk hB); clear hB) | (go_at_call 27; refine (gen_any _ _).mono ?_; rintro e w2 ⟨rfl, rfl⟩; rw [hg]) | (go_at_call 28; refine (maxKey_any _ _).mono ?_; rintro e w3 ⟨rfl, hB⟩; (replace HB := Aside0.mk (below_then HB.out HB.out.size hB)); clear hB) | (go_at_call 29; refine (rMaxKey_any _ _).mono ?_; rintro e w3 ⟨rfl, rfl⟩) | (go_at_call 30; refine (maxValue_any _ _).mono ?_; rintro e w3 ⟨rfl, hB⟩; (replace HB := Aside0.mk (below_then HB.out HB.out.size hB)); clear hB) | (go_at_call 31; refine (rMaxValue_any _ _).mono ?_; rintro e w3 ⟨rfl, rfl⟩) | (go_at_call 32; refine (idWidth_any _ _).mono ?_; rintro e w3 ⟨rfl, hB⟩; (replace HB := Aside0.mk (below_then HB.out HB.out.size hB)); clear hB) | (go_at_call 33; refine (rIdWidth_any _ _).mono ?_; rintro e w3 ⟨rfl, rfl⟩) | (go_at_call 34; refine (head_any _ _).mono ?_; rintro e w3 ⟨rfl, hB⟩; (replace HB := Aside0.mk (below_then HB.out HB.out.size hB)); clear hB) | (go_at_call 35; refine (rHead_any _ _).mono ?_; rintro e w3 ⟨rfl, rfl⟩) | (go_at_call 36; refine (cap_any _ _).mono ?_; rintro e w3 ⟨rfl, hB⟩; (replace HB := Aside0.mk (below_then HB.out HB.out.size hB)); clear hB) | (go_at_call 37; refine (rCap_any _ _).mono ?_; rintro e w3 ⟨rfl, rfl⟩))
    go_ret
    exact ⟨ret_bool (by first | rfl | simp), HB.out⟩
  have e2 : (g == 2) = false := beq_f h2
  by_cases h3 : g = 3
  · subst h3
    have hg : genB 3 = true := by decide
    go_enter Try.func9, Try.ntmps9
    go_wp2_with (first | (go_at_call 26; refine (alive05_any _).mono ?_; rintro e w1 ⟨rfl, hB⟩; (have HB := Aside0.mk hB); clear hB) | (go_at_call 27; refine (gen_any _ _).mono ?_; rintro e w2 ⟨rfl, rfl⟩; rw [hg]) | (go_at_call 28; refine (maxKey_any _ _).mono ?_; rintro e w3 ⟨rfl, hB⟩; (replace HB := Aside0.mk (below_then HB.out HB.out.size hB)); clear hB) | (go_at_call 29; refine (rMaxKey_any _ _).mono ?_; rintro e w3 ⟨rfl, rfl⟩) | (go_at_call 30; refine (maxValue_any _ _).mono ?_; rintro e w3 ⟨rfl, hB⟩; (replace HB := Aside0.mk (below_then HB.out HB.out.size hB)); clear hB) | (go_at_call 31; refine (rMaxValue_any _ _).mono ?_; rintro e w3 ⟨rfl, rfl⟩) | (go_at_call 32; refine (idWidth_any _ _).mono ?_; rintro e w3 ⟨rfl, hB⟩; (replace HB := Aside0.mk (below_then HB.out HB.out.size hB)); clear hB) | (go_at_call 33; refine (rIdWidth_any _ _).mono ?_; rintro e w3 ⟨rfl, rfl⟩) | (go_at_call 34; refine (head_any _ _).mono ?_; rintro e w3 ⟨rfl, hB⟩; (replace HB := Aside0.mk (below_then HB.out HB.out.size hB)); clear hB) | (go_at_call 35; refine (rHead_any _ _).mono ?_; rintro e w3 ⟨rfl, rfl⟩) | (go_at_call 36; refine (cap_any _ _).mono ?_; rintro e w3 ⟨rfl, hB⟩; (replace HB := Aside0.mk (below_then HB.out HB.out.size hB)); clear hB) | (go_at_call 37; refine (rCap_any _ _).mono ?_; rintro e w3 ⟨rfl, rfl⟩))
    go_ret
    exact ⟨ret_bool (by first | rfl | simp), HB.out⟩
  have e3 : (g == 3) = false := beq_f h3
  have hg : genB g = false := decide_eq_false (by omega)
  clear h1 h2 h3
  go_enter Try.func9, Try.ntmps9
  go_wp2_with (first | (go_at_call 26; refine (alive05_any _).mono ?_; rintro e w1 ⟨rfl, hB⟩; (have HB := Aside0.mk hB); clear hB) | (go_at_call 27; refine (gen_any _ _).mono ?_; rintro e w2 ⟨rfl, rfl⟩; rw [hg]) | (go_at_call 28; refine (maxKey_any _ _).mono ?_; rintro e w3 ⟨rfl, hB⟩; (replace HB := Aside0.mk (below_then HB.out HB.out.size hB)); clear hB) | (go_at_call 29; refine (rMaxKey_any _ _).mono ?_; rintro e w3 ⟨rfl, rfl⟩) | (go_at_call 30; refine (maxValue_any _ _).mono ?_; rintro e w3 ⟨rfl, hB⟩; (replace HB := Aside0.mk (below_then HB.out HB.out.size hB)); clear hB) | (go_at_call 31; refine (rMaxValue_any _ _).mono ?_; rintro e w3 ⟨rfl, rfl⟩) | (go_at_call 32; refine (idWidth_any _ _).mono ?_; rintro e w3 ⟨rfl, hB⟩; (replace HB := Aside0.mk (below_then HB.out HB.out.size hB)); clear hB) | (go_at_call 33; refine (rIdWidth_any _ _).mono ?_; rintro e w3 ⟨rfl, rfl⟩) | (go_at_call 34; refine (head_any _ _).mono ?_; rintro e w3 ⟨rfl, hB⟩; (replace HB := Aside0.mk (below_then HB.out HB.out.size hB)); clear hB) | (go_at_call 35; refine (rHead_any _ _).mono ?_; rintro e w3 ⟨rfl, rfl⟩) | (go_at_call 36; refine (cap_any _ _).mono ?_; rintro e w3 ⟨rfl, hB⟩; (replace HB := Aside0.mk (below_then HB.out HB.out.size hB)); clear hB) | (go_at_call 37; refine (rCap_any _ _).mono ?_; rintro e w3 ⟨rfl, rfl⟩))
  go_ret
  exact ⟨ret_bool (by first | rfl | simp), HB.out⟩
end Go.Proofs.Ytaoaenjhclicfaa
