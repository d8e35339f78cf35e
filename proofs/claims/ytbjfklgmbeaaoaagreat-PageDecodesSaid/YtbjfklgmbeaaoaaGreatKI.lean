/- page's own small example: what it computes. -/
import Derived.Test.YtbjfklgmbeaaoaaGreatKH
set_option linter.unusedVariables false
set_option linter.unusedSimpArgs false
namespace Go.Proofs.YtbjfklgmbeaaoaaGreat
open Go.RowKit

def v7 : NV := ⟨true, [⟨[97], [98], 0, 0⟩], []⟩
def ex7 : List UInt8 := [76, 1, 1, 0, 0, 0, 0, 0, 1, 0, 1, 0, 97, 98] ++ List.replicate 242 0
set_option maxRecDepth 100000 in
theorem pg7 : pgB 1 v7 = ex7 := by decide +kernel
set_option maxRecDepth 100000 in
theorem pg7E : pgE 1 v7 = 0 := by decide +kernel
theorem ex7_len : ex7.length = 256 := by decide +kernel
theorem ex7_h : hE ex7 = 0 ∧ hK ex7 = 76 ∧ hG ex7 = 1 ∧ hC ex7 = 1 ∧ hNx ex7 = 0 := by decide +kernel
theorem ex7_hV : hV ex7 = #[.int .i64 76, .int .i64 1, .int .i64 1, .int .i64 0] := by
  unfold hV
  rw [if_pos ex7_h.1, ex7_h.2.1, ex7_h.2.2.1, ex7_h.2.2.2.1, ex7_h.2.2.2.2]
theorem dN7 : dN ex7 = (v7, (6, false)) := by kernel_rfl
theorem dec7 : decE ex7 = 0 ∧ decG ex7 = 1 ∧ decV ex7 = v7 := by
  have h : decE ex7 = 0 := by
    unfold decE
    rw [if_neg (fun h => h ex7_len), if_neg (fun h => h ex7_h.1), if_neg (fun h => h (.inl ex7_h.2.1)), if_neg (fun h => by have := h.1; rw [ex7_h.2.2.1] at this; omega), dN7, ex7_h.2.2.1, if_neg]
    rintro (h | h | h)
    · cases h
    · exact h pg7E
    · exact h pg7
  exact ⟨h, by unfold decG; rw [if_pos h]; exact ex7_h.2.2.1, by unfold decV; rw [if_pos h, dN7]⟩
theorem wr7 : wrE 79 3 2 9 [7] = 0 := by decide +kernel
def ex9 : List UInt8 := wrB 79 3 2 9 [7]
theorem ex9_len : ex9.length = 256 := by
  unfold ex9 wrB
  rw [if_pos wr7, if_pos (by omega), sealB_length]
  decide +kernel
theorem ex9_body : (bodyL ex9).length = 240 ∧ (bodyL ex9)[0]? = some 7 := by decide +kernel
end Go.Proofs.YtbjfklgmbeaaoaaGreat
