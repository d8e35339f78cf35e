/- The walks of field.Fits and of the reference's. -/
import Derived.Test.YtenibcbodjkglaaA0
set_option linter.unusedVariables false
set_option linter.unusedSimpArgs false
namespace Go.Proofs.Ytenibcbodjkglaa
open Go.RowKit

/-- Which numbers have room in which widths. -/
def fitsB (n width : Int) : Bool := decide (1 ≤ width ∧ width ≤ 8 ∧ 0 ≤ n ∧ n < 256 ^ width.toNat)
theorem fits_no {n width : Int} (h : ¬ (1 ≤ width ∧ width ≤ 8 ∧ 0 ≤ n)) : fitsB n width = false := decide_eq_false (fun k => h ⟨k.1, k.2.1, k.2.2.1⟩)
set_option maxHeartbeats 2000000 in
set_option maxRecDepth 100000 in
theorem fits_any (n width : Int) (w : World) (hn : -9223372036854775808 ≤ n ∧ n ≤ 9223372036854775807) :
    Calls Try.prog 45 #[.int .i64 n, .int .i64 width] w fun e w' => e = .returned (.bool (fitsB n width)) ∧ w = w' := by
  obtain ⟨n0, n1⟩ := hn
  by_cases h1 : 1 ≤ width
  · have f1 := decide_eq_true h1
    have f1' : decide (width < 1) = false := decide_eq_false (by omega)
    by_cases h2 : width ≤ 8
    · have f2 := decide_eq_true h2
      have f2' : decide (8 < width) = false := decide_eq_false (by omega)
      by_cases h3 : 0 ≤ n
      · have f3 := decide_eq_true h3
        have f3' : decide (n < 0) = false := decide_eq_false (by omega)
        rcases (show width = 1 ∨ width = 2 ∨ width = 3 ∨ width = 4 ∨ width = 5 ∨ width = 6 ∨ width = 7 ∨ width = 8 by omega) with rfl | rfl | rfl | rfl | rfl | rfl | rfl | rfl
        · have hv := Aside0.mk (show fitsB n 1 = decide (n < 256) from by unfold fitsB; apply decide_eq_decide.2; rw [show (256 : Int) ^ (1 : Int).toNat = 256 from by decide]; omega)
          clear h1 h2 f1 f2 f1' f2'
          go_enter Try.func45, Try.ntmps45
          go_wp2
          go_ret
          refine ⟨ret_bool ?_, rfl⟩
          rw [hv.out, Bool.eq_iff_iff]
          simp
          try omega
        · have hv := Aside0.mk (show fitsB n 2 = decide (n < 65536) from by unfold fitsB; apply decide_eq_decide.2; rw [show (256 : Int) ^ (2 : Int).toNat = 65536 from by decide]; omega)
          clear h1 h2 f1 f2 f1' f2'
          go_enter Try.func45, Try.ntmps45
          go_wp2
          go_ret
          refine ⟨ret_bool ?_, rfl⟩
          rw [hv.out, Bool.eq_iff_iff]
          simp
          try omega
        · have hv := Aside0.mk (show fitsB n 3 = decide (n < 16777216) from by unfold fitsB; apply decide_eq_decide.2; rw [show (256 : Int) ^ (3 : Int).toNat = 16777216 from by decide]; omega)
          clear h1 h2 f1 f2 f1' f2'
          go_enter Try.func45, Try.ntmps45
          go_wp2
          go_ret
          refine ⟨ret_bool ?_, rfl⟩
          rw [hv.out, Bool.eq_iff_iff]
          simp
          try omega
        · have hv := Aside0.mk (show fitsB n 4 = decide (n < 4294967296) from by unfold fitsB; apply decide_eq_decide.2; rw [show (256 : Int) ^ (4 : Int).toNat = 4294967296 from by decide]; omega)
          clear h1 h2 f1 f2 f1' f2'
          go_enter Try.func45, Try.ntmps45
          go_wp2
          go_ret
          refine ⟨ret_bool ?_, rfl⟩
          rw [hv.out, Bool.eq_iff_iff]
          simp
          try omega
        · have hv := Aside0.mk (show fitsB n 5 = decide (n < 1099511627776) from by unfold fitsB; apply decide_eq_decide.2; rw [show (256 : Int) ^ (5 : Int).toNat = 1099511627776 from by decide]; omega)
          clear h1 h2 f1 f2 f1' f2'
          go_enter Try.func45, Try.ntmps45
          go_wp2
          go_ret
          refine ⟨ret_bool ?_, rfl⟩
          rw [hv.out, Bool.eq_iff_iff]
          simp
          try omega
        · have hv := Aside0.mk (show fitsB n 6 = decide (n < 281474976710656) from by unfold fitsB; apply decide_eq_decide.2; rw [show (256 : Int) ^ (6 : Int).toNat = 281474976710656 from by decide]; omega)
          clear h1 h2 f1 f2 f1' f2'
          go_enter Try.func45, Try.ntmps45
          go_wp2
          go_ret
          refine ⟨ret_bool ?_, rfl⟩
          rw [hv.out, Bool.eq_iff_iff]
          simp
          try omega
        · have hv := Aside0.mk (show fitsB n 7 = decide (n < 72057594037927936) from by unfold fitsB; apply decide_eq_decide.2; rw [show (256 : Int) ^ (7 : Int).toNat = 72057594037927936 from by decide]; omega)
          clear h1 h2 f1 f2 f1' f2'
          go_enter Try.func45, Try.ntmps45
          go_wp2
          go_ret
          refine ⟨ret_bool ?_, rfl⟩
          rw [hv.out, Bool.eq_iff_iff]
          simp
          try omega
        · have hv := Aside0.mk (show fitsB n 8 = decide (n < 18446744073709551616) from by unfold fitsB; apply decide_eq_decide.2; rw [show (256 : Int) ^ (8 : Int).toNat = 18446744073709551616 from by decide]; omega)
          clear h1 h2 f1 f2 f1' f2'
          go_enter Try.func45, Try.ntmps45
          go_wp2
          go_ret
          refine ⟨ret_bool ?_, rfl⟩
          rw [hv.out, Bool.eq_iff_iff]
          simp
          try omega
      · have f3 := decide_eq_false h3
        have f3' : decide (n < 0) = true := decide_eq_true (by omega)
        have hv := Aside0.mk (fits_no (n := n) (width := width) (by omega))
        go_enter Try.func45, Try.ntmps45
        go_wp2
        go_ret
        exact ⟨ret_bool hv.out.symm, rfl⟩
    · have f2 := decide_eq_false h2
      have f2' : decide (8 < width) = true := decide_eq_true (by omega)
      have hv := Aside0.mk (fits_no (n := n) (width := width) (by omega))
      go_enter Try.func45, Try.ntmps45
      go_wp2
      go_ret
      exact ⟨ret_bool hv.out.symm, rfl⟩
  · have f1 := decide_eq_false h1
    have f1' : decide (width < 1) = true := decide_eq_true (by omega)
    have hv := Aside0.mk (fits_no (n := n) (width := width) (by omega))
    go_enter Try.func45, Try.ntmps45
    go_wp2
    go_ret
    exact ⟨ret_bool hv.out.symm, rfl⟩
end Go.Proofs.Ytenibcbodjkglaa
