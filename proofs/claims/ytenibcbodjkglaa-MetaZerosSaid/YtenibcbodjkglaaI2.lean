/- The walks of item's small functions, over what a generation has. -/
import Derived.Test.YtenibcbodjkglaaI1
set_option linter.unusedVariables false
set_option linter.unusedSimpArgs false
namespace Go.Proofs.Ytenibcbodjkglaa
open Go.RowKit

theorem itf (W : World) (a b c d : Int) : (Instr.field 76 (.agg #[.int .i64 a, .int .i64 b, .int .i64 c, .int .i64 d]) 0).run Try.prog W = .ok (.int .i64 a) W ∧
    (Instr.field 76 (.agg #[.int .i64 a, .int .i64 b, .int .i64 c, .int .i64 d]) 1).run Try.prog W = .ok (.int .i64 b) W ∧
    (Instr.field 76 (.agg #[.int .i64 a, .int .i64 b, .int .i64 c, .int .i64 d]) 2).run Try.prog W = .ok (.int .i64 c) W ∧
    (Instr.field 76 (.agg #[.int .i64 a, .int .i64 b, .int .i64 c, .int .i64 d]) 3).run Try.prog W = .ok (.int .i64 d) W := ⟨by kernel_rfl, by kernel_rfl, by kernel_rfl, by kernel_rfl⟩

set_option maxHeartbeats 1000000 in
set_option maxRecDepth 100000 in
theorem maxKey_any (g : Int) (w : World) : Calls Try.prog 52 #[.int .i64 g] w fun e w' => e = .returned (.int .i64 (mkI g)) ∧ Below w.heap.size w w' := by
  have hf := fun W a b c d => itf W a b c d
  go_enter Try.func52, Try.ntmps52
  go_wp2_with (go_at_call 46; refine (itof_any _ _).mono ?_; rintro e w1 ⟨rfl, hB⟩)
  go_ret
  exact ⟨rfl, hB⟩
set_option maxHeartbeats 1000000 in
set_option maxRecDepth 100000 in
theorem idWidth_any (g : Int) (w : World) : Calls Try.prog 28 #[.int .i64 g] w fun e w' => e = .returned (.int .i64 (iwI g)) ∧ Below w.heap.size w w' := by
  have hf := fun W a b c d => itf W a b c d
  go_enter Try.func28, Try.ntmps28
  go_wp2_with (go_at_call 46; refine (itof_any _ _).mono ?_; rintro e w1 ⟨rfl, hB⟩)
  go_ret
  exact ⟨rfl, hB⟩
theorem gen3_range (g a b c : Int) (ha : 0 ≤ a ∧ a ≤ 2000) (hb : 0 ≤ b ∧ b ≤ 2000) (hc : 0 ≤ c ∧ c ≤ 2000) : 0 ≤ gen3 g a b c ∧ gen3 g a b c ≤ 2000 := by
  unfold gen3
  split
  · exact ha
  · split
    · exact hb
    · split
      · exact hc
      · omega
theorem mk_range (g : Int) : 0 ≤ mkI g ∧ mkI g ≤ 2000 := gen3_range g _ _ _ (by omega) (by omega) (by omega)
theorem mv_range (g : Int) : 0 ≤ mvI g ∧ mvI g ≤ 2000 := gen3_range g _ _ _ (by omega) (by omega) (by omega)
theorem iw_range (g : Int) : 0 ≤ iwI g ∧ iwI g ≤ 2000 := gen3_range g _ _ _ (by omega) (by omega) (by omega)
theorem hd_range (g : Int) : 0 ≤ hdI g ∧ hdI g ≤ 2000 := gen3_range g _ _ _ (by omega) (by omega) (by omega)
theorem cp_hd (g : Int) (h : genB g = true) : 256 - hdI g = cpI g := by
  unfold genB at h
  have h := of_decide_eq_true h
  have : g = 1 ∨ g = 2 ∨ g = 3 := by omega
  rcases this with rfl | rfl | rfl <;> rfl
theorem cp_none (g : Int) (h : genB g = false) : cpI g = 0 := by
  unfold genB at h
  exact gen3_none (of_decide_eq_false h)

/-- Why a key and a value may not be, by their lengths. -/
def whyI (g : Int) (nk nv : Nat) : Int := if genB g = true then (if nk = 0 ∨ mkI g < (nk : Int) then 50 else if mvI g < (nv : Int) then 51 else 0) else 1

end Go.Proofs.Ytenibcbodjkglaa
