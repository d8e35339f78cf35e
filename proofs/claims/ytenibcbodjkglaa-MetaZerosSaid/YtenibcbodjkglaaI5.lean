/- The walks of the reference's functions of layer 5. -/
import Derived.Test.YtenibcbodjkglaaI4
set_option linter.unusedVariables false
set_option linter.unusedSimpArgs false
namespace Go.Proofs.Ytenibcbodjkglaa
open Go.RowKit

set_option maxHeartbeats 1000000 in
theorem trait_any (g a b c : Int) (w : World) : Calls Try.prog 50 #[.int .i64 g, .int .i64 a, .int .i64 b, .int .i64 c] w fun e w' => e = .returned (.int .i64 (gen3 g a b c)) ∧ w = w' := by
  by_cases h1 : g = 1
  · subst h1
    go_enter Try.func50, Try.ntmps50
    go_wp2
    go_ret
    exact ⟨rfl, rfl⟩
  have e1 : (g == 1) = false := beq_f h1
  by_cases h2 : g = 2
  · subst h2
    go_enter Try.func50, Try.ntmps50
    go_wp2
    go_ret
    exact ⟨rfl, rfl⟩
  have e2 : (g == 2) = false := beq_f h2
  by_cases h3 : g = 3
  · subst h3
    go_enter Try.func50, Try.ntmps50
    go_wp2
    go_ret
    exact ⟨rfl, rfl⟩
  have e3 : (g == 3) = false := beq_f h3
  have hv := Aside0.mk (show gen3 g a b c = 0 by unfold gen3; rw [if_neg h1, if_neg h2, if_neg h3])
  clear h1 h2 h3
  go_enter Try.func50, Try.ntmps50
  go_wp2
  go_ret
  exact ⟨ret_int hv.out.symm, rfl⟩
set_option maxHeartbeats 1000000 in
theorem rMaxKey_any (g : Int) (w : World) : Calls Try.prog 38 #[.int .i64 g] w fun e w' => e = .returned (.int .i64 (mkI g)) ∧ w = w' := by
  go_enter Try.func38, Try.ntmps38
  go_wp2_with (go_at_call 50; refine (trait_any _ _ _ _ _).mono ?_; rintro e w1 ⟨rfl, rfl⟩)
  go_ret
  exact ⟨rfl, rfl⟩
set_option maxHeartbeats 1000000 in
theorem rIdWidth_any (g : Int) (w : World) : Calls Try.prog 33 #[.int .i64 g] w fun e w' => e = .returned (.int .i64 (iwI g)) ∧ w = w' := by
  go_enter Try.func33, Try.ntmps33
  go_wp2_with (go_at_call 50; refine (trait_any _ _ _ _ _).mono ?_; rintro e w1 ⟨rfl, rfl⟩)
  go_ret
  exact ⟨rfl, rfl⟩
theorem gen_lo {g : Int} (h : g < 1) : genB g = false := decide_eq_false (by omega)
theorem gen_hi {g : Int} (h : 3 < g) : genB g = false := decide_eq_false (by omega)
theorem gen_in {g : Int} (h : ¬ g < 1) (h2 : ¬ 3 < g) : genB g = true := decide_eq_true (by omega)
theorem dI_t {p : Prop} [Decidable p] (h : p) : decide p = true := decide_eq_true h
theorem dI_f {p : Prop} [Decidable p] (h : ¬ p) : decide p = false := decide_eq_false h
theorem why0 {g : Int} {nk nv : Nat} (hg : genB g = true) (h1 : ¬ nk = 0) (h2 : ¬ mkI g < (nk : Int)) : whyI g nk nv = 0 ↔ (nv : Int) ≤ mvI g := by
  unfold whyI
  rw [if_pos hg, if_neg (fun h => h.elim h1 h2)]
  by_cases h : mvI g < (nv : Int)
  · rw [if_pos h]; constructor <;> intro h' <;> omega
  · rw [if_neg h]; constructor <;> intro h' <;> omega
theorem right_no {g : Int} {nk nv : Nat} {s r : Int} (h : whyI g nk nv ≠ 0) : rightB g nk nv s r = false := by
  unfold rightB
  rw [decide_eq_false (fun k => h k.1), Bool.false_and]
theorem right_0 {g : Int} {nk nv : Nat} {s : Int} (hg : genB g = true) (h1 : ¬ nk = 0) (h2 : ¬ mkI g < (nk : Int)) : rightB g nk nv s 0 = decide (s = 0 ∧ (nv : Int) ≤ mvI g) := by
  unfold rightB longI
  rw [if_pos rfl, if_pos rfl, ← Bool.decide_and]
  apply decide_eq_decide.2
  rw [why0 hg h1 h2]
  constructor
  · rintro ⟨⟨a, b⟩, c⟩; exact ⟨c, a⟩
  · rintro ⟨a, b⟩; exact ⟨⟨b, b⟩, a⟩
theorem mv_nat {g : Int} : (0 : Int) ≤ mvI g := (mv_range g).1
theorem right_r {g : Int} {nk nv : Nat} {s r : Int} (hg : genB g = true) (h1 : ¬ nk = 0) (h2 : ¬ mkI g < (nk : Int)) (hr : ¬ r = 0) : rightB g nk nv s r = decide (1 < r ∧ r < 16384 ∧ nv = 0 ∧ 32 < s ∧ s ≤ mvI g) := by
  unfold rightB longI
  rw [if_neg hr, if_neg hr, ← Bool.decide_and]
  apply decide_eq_decide.2
  rw [why0 hg h1 h2]
  have := mv_nat (g := g)
  constructor
  · rintro ⟨⟨a, b⟩, c, d, e, f⟩; exact ⟨by omega, d, f, e, b⟩
  · rintro ⟨a, b, c, d, e⟩; exact ⟨⟨by omega, e⟩, by omega, b, d, c⟩
end Go.Proofs.Ytenibcbodjkglaa
