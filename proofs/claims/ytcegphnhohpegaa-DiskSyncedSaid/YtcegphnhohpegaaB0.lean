/- More words: make([]byte, n). -/
import Derived.Test.YtcegphnhohpegaaA0
import Derived.Deep.OwnRows
set_option linter.unusedVariables false
set_option linter.unusedSimpArgs false
namespace Go.Proofs.Ytcegphnhohpegaa
open Go.RowKit

theorem mk8 (m : Nat) (hm : m ≤ 140737488355328) : ∀ W : World, (Instr.makeSlice 22 (.int .i64 (m : Int)) (.int .i64 (m : Int))).run Try.prog W = .ok (.slice (some ⟨W.heap.size, 0, none⟩) m m) (W.alloc (.cells (madeCells #[.int .u8 0] m) 5)) := by
  intro W
  exact run_make_row' 22 5 (.int .u8 0) 1 Try.underlying22 info8 rfl .i64 .i64 m (by omega) (by omega) W
theorem Ow.made (w : World) (base N : Nat) (hN : w.heap.size = N) (h : base ≤ w.heap.size) (m : Nat) (hm : m ≤ 140737488355328) : Ow (w.alloc (.cells (madeCells #[.int .u8 0] m) 5)) base (some ⟨N, 0, none⟩) m m (List.replicate m 0) := by
  subst hN
  have h := World.ownsRow_lit (base := base) (e := 5) (size := 1) w (madeCells #[.int .u8 0] m) m h (by simp [maxLen]; omega) (by simp [size_madeCells])
  have hl : (madeCells #[Value.int .u8 0] m).toList = u8v (List.replicate m 0) := by
    apply List.ext_getElem
    · simp [u8v, madeCells]
    · intro i h1 h2
      simp [u8v, madeCells, Nat.mod_one]
  rw [hl] at h
  exact ⟨h, hm⟩

end Go.Proofs.Ytcegphnhohpegaa
