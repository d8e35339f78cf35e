/- The walk of regaugeref03's Put. -/
import Derived.Test.YtenibcbodjkglaaH2
set_option linter.unusedVariables false
set_option linter.unusedSimpArgs false
namespace Go.Proofs.Ytenibcbodjkglaa
open Go.RowKit

theorem div_pow_succ (n : Int) (j : Nat) : n / 256 ^ j / 256 = n / 256 ^ (j + 1) := by
  rw [Int.pow_succ, Int.ediv_ediv_of_nonneg (Int.pow_nonneg (by decide))]
theorem div_pow_bound {n : Int} (h0 : 0 ≤ n) (h1 : n ≤ 9223372036854775807) (j : Nat) : 0 ≤ n / 256 ^ j ∧ n / 256 ^ j ≤ 9223372036854775807 :=
  ⟨Int.ediv_nonneg h0 (Int.pow_nonneg (by decide)), Int.le_trans (Int.ediv_le_self _ h0) h1⟩
end Go.Proofs.Ytenibcbodjkglaa
