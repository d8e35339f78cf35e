/- The walks of item's small functions: what a generation has. -/
import Derived.Test.YtenibcbodjkglaaA0
set_option linter.unusedVariables false
set_option linter.unusedSimpArgs false
namespace Go.Proofs.Ytenibcbodjkglaa
open Go.RowKit

theorem beq_t {a b : Int} (h : a = b) : (a == b) = true := beq_iff_eq.mpr h
theorem beq_f {a b : Int} (h : ¬ a = b) : (a == b) = false := beq_eq_false_iff_ne.mpr h
theorem bne_t {a b : Int} (h : ¬ a = b) : (a != b) = true := bne_iff_ne.mpr h
theorem bne_f {a b : Int} (h : a = b) : (a != b) = false := bne_eq_false_iff_eq.mpr h

def gen3 (g a b c : Int) : Int := if g = 1 then a else if g = 2 then b else if g = 3 then c else 0
def genB (g : Int) : Bool := decide (1 ≤ g ∧ g ≤ 3)
def mkI (g : Int) : Int := gen3 g 16 20 24
def mvI (g : Int) : Int := gen3 g 400 800 1600
def iwI (g : Int) : Int := gen3 g 4 8 8
def hdI (g : Int) : Int := gen3 g 8 16 16
def cpI (g : Int) : Int := gen3 g 248 240 240
theorem gen_cases (g : Int) : g = 1 ∨ g = 2 ∨ g = 3 ∨ (¬ (1 ≤ g ∧ g ≤ 3)) := by omega
theorem gen3_none {g a b c : Int} (h : ¬ (1 ≤ g ∧ g ≤ 3)) : gen3 g a b c = 0 := by
  unfold gen3
  rw [if_neg (by omega), if_neg (by omega), if_neg (by omega)]

set_option maxHeartbeats 1000000 in
theorem gen_any (g : Int) (w : World) : Calls Try.prog 42 #[.int .i64 g] w fun e w' => e = .returned (.bool (genB g)) ∧ w = w' := by
  by_cases h1 : 1 ≤ g
  · have h1' : decide (1 ≤ g) = true := decide_eq_true h1
    go_enter Try.func42, Try.ntmps42
    go_wp2
    go_ret
    exact ⟨ret_bool (by unfold genB; apply decide_eq_decide.2; omega), rfl⟩
  · have h1' : decide (1 ≤ g) = false := decide_eq_false h1
    go_enter Try.func42, Try.ntmps42
    go_wp2
    go_ret
    exact ⟨ret_bool (by unfold genB; symm; apply decide_eq_false; omega), rfl⟩

theorem itix1 (W : World) : (Instr.index 87 (.agg #[.int .i64 16, .int .i64 400, .int .i64 4, .int .i64 8, .int .i64 20, .int .i64 800, .int .i64 8, .int .i64 16, .int .i64 24, .int .i64 1600, .int .i64 8, .int .i64 16]) (.int .i64 0)).run Try.prog W = .ok (.agg #[.int .i64 16, .int .i64 400, .int .i64 4, .int .i64 8]) W := by kernel_rfl
theorem itix2 (W : World) : (Instr.index 87 (.agg #[.int .i64 16, .int .i64 400, .int .i64 4, .int .i64 8, .int .i64 20, .int .i64 800, .int .i64 8, .int .i64 16, .int .i64 24, .int .i64 1600, .int .i64 8, .int .i64 16]) (.int .i64 1)).run Try.prog W = .ok (.agg #[.int .i64 20, .int .i64 800, .int .i64 8, .int .i64 16]) W := by kernel_rfl
theorem itix3 (W : World) : (Instr.index 87 (.agg #[.int .i64 16, .int .i64 400, .int .i64 4, .int .i64 8, .int .i64 20, .int .i64 800, .int .i64 8, .int .i64 16, .int .i64 24, .int .i64 1600, .int .i64 8, .int .i64 16]) (.int .i64 2)).run Try.prog W = .ok (.agg #[.int .i64 24, .int .i64 1600, .int .i64 8, .int .i64 16]) W := by kernel_rfl
set_option maxHeartbeats 1000000 in
theorem itof_any (g : Int) (w : World) : Calls Try.prog 46 #[.int .i64 g] w fun e w' => e = .returned (.agg #[.int .i64 (mkI g), .int .i64 (mvI g), .int .i64 (iwI g), .int .i64 (hdI g)]) ∧ Below w.heap.size w w' := by
  rcases gen_cases g with rfl | rfl | rfl | h
  · have hg : genB 1 = true := rfl
    have hix := fun W => itix1 W
    go_enter Try.func46, Try.ntmps46
    go_wp2_with (go_at_call 42; refine (gen_any _ _).mono ?_; rintro e w1 ⟨rfl, rfl⟩; rw [hg])
    refine bodyPost_ret (v := .agg #[.int .i64 16, .int .i64 400, .int .i64 4, .int .i64 8]) (by simp [results, Try.results46, go_sem]) rfl ⟨rfl, (Below.refl _ _).alloc (Nat.le_refl _) _⟩
  · have hg : genB 2 = true := rfl
    have hix := fun W => itix2 W
    go_enter Try.func46, Try.ntmps46
    go_wp2_with (go_at_call 42; refine (gen_any _ _).mono ?_; rintro e w1 ⟨rfl, rfl⟩; rw [hg])
    refine bodyPost_ret (v := .agg #[.int .i64 20, .int .i64 800, .int .i64 8, .int .i64 16]) (by simp [results, Try.results46, go_sem]) rfl ⟨rfl, (Below.refl _ _).alloc (Nat.le_refl _) _⟩
  · have hg : genB 3 = true := rfl
    have hix := fun W => itix3 W
    go_enter Try.func46, Try.ntmps46
    go_wp2_with (go_at_call 42; refine (gen_any _ _).mono ?_; rintro e w1 ⟨rfl, rfl⟩; rw [hg])
    refine bodyPost_ret (v := .agg #[.int .i64 24, .int .i64 1600, .int .i64 8, .int .i64 16]) (by simp [results, Try.results46, go_sem]) rfl ⟨rfl, (Below.refl _ _).alloc (Nat.le_refl _) _⟩
  · have hg : genB g = false := by unfold genB; exact decide_eq_false h
    have e1 : mkI g = 0 := gen3_none h
    have e2 : mvI g = 0 := gen3_none h
    have e3 : iwI g = 0 := gen3_none h
    have e4 : hdI g = 0 := gen3_none h
    rw [e1, e2, e3, e4]
    clear e1 e2 e3 e4
    go_enter Try.func46, Try.ntmps46
    go_wp2_with (go_at_call 42; refine (gen_any _ _).mono ?_; rintro e w1 ⟨rfl, rfl⟩; rw [hg])
    refine bodyPost_ret (v := .agg #[.int .i64 0, .int .i64 0, .int .i64 0, .int .i64 0]) (by simp [results, Try.results46, go_sem]) rfl ⟨rfl, (Below.refl _ _).alloc (Nat.le_refl _) _⟩

end Go.Proofs.Ytenibcbodjkglaa
