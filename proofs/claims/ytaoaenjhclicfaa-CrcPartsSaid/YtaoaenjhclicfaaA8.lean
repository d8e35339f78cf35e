/- The walk of the sums' own small example. -/
import Derived.Test.YtaoaenjhclicfaaA7
set_option linter.unusedVariables false
set_option linter.unusedSimpArgs false
namespace Go.Proofs.Ytaoaenjhclicfaa
open Go.RowKit

def nine : List UInt8 := [49, 50, 51, 52, 53, 54, 55, 56, 57]
def sev : List UInt8 := [1, 2, 0, 0, 0, 0, 3]
theorem upd_nine : updI 0 nine = 3808858755 := by decide +kernel
theorem upd_four : updI (updI 0 (nine.take 4)) (nine.drop 4) = 3808858755 := by decide +kernel
theorem upd_nil : updI 0 [] = 0 := by decide +kernel
theorem sealed_two : (sealB (sealB sev 2) 2 == sealB sev 2) = true := by decide +kernel
theorem sealed_one : (sealB (sealB sev 2) 1 == sealB sev 2) = false := by decide +kernel

/-- What the small example keeps. -/
structure I02 (w : World) (A1 : Option Addr) (c1 : Nat) (W : World) : Prop where
  nine : Bs W (some ⟨w.heap.size, 0, none⟩) 9 9 nine
  sev : Bs W A1 7 c1 (sealB sev 2)
  bel : Below w.heap.size w W
theorem I02.step {w W W1 : World} {A1 : Option Addr} {c1 : Nat} (h : I02 w A1 c1 W) (hB : Below W.heap.size W W1) : I02 w A1 c1 W1 := ⟨h.nine.below hB, h.sev.below hB, below_then h.bel h.bel.size hB⟩

set_option maxHeartbeats 4000000 in
set_option maxRecDepth 100000 in
theorem alive02_any (w : World) : Calls Try.prog 15 #[] w fun e w' => e = .returned (.bool true) ∧ Below w.heap.size w w' := by
  have kc := fun W C n c => Lib.run_convert_bytes_const (P := Try.prog) W 22 5 C n c Try.underlying22 Try.underlying5
  go_enter Try.func15, Try.ntmps15
  have hb9 := Aside0.mk (Bs.lit w w.heap.size rfl #[.int .u8 49, .int .u8 50, .int .u8 51, .int .u8 52, .int .u8 53, .int .u8 54, .int .u8 55, .int .u8 56, .int .u8 57] 5 (9, 10) 9 9 nine rfl rfl (by omega) (by omega) (by omega))
  have hb7 := Aside0.mk (Bs.lit (w.alloc (.cells #[.int .u8 49, .int .u8 50, .int .u8 51, .int .u8 52, .int .u8 53, .int .u8 54, .int .u8 55, .int .u8 56, .int .u8 57] 5 (9, 10))) (w.heap.size + 1) (by simp) #[.int .u8 1, .int .u8 2, .int .u8 0, .int .u8 0, .int .u8 0, .int .u8 0, .int .u8 3] 5 (0, 0) 7 7 sev rfl rfl (by omega) (by omega) (by omega))
  go_wp2_with (go_at_call 19; refine (seal_any _ _ _ sev _ _ hb7.out).mono ?_; rintro e w1 ⟨A1, c1, rfl, hO1, hB1⟩)
  have HB : I02 w A1 c1 w1 := ⟨(hb9.out.alloc _).below hB1, hO1.bs, below_then (((Below.refl _ _).alloc (Nat.le_refl _) _).alloc (by simp) _) (by simp; omega) hB1⟩
  replace HB := HB.step (below_drew (Below.refl _ _))
  clear hb9 hb7 hO1 hB1 kc
  have s1 := fun W => sl8_h W (some ⟨w.heap.size, 0, none⟩) 9 9 .i64 4 (by omega) (by omega)
  have s2 := fun W => sl8_l W (some ⟨w.heap.size, 0, none⟩) 9 9 .i64 4 (by omega) (by omega)
  go_region_with (first | (go_at_call 16; first | ((with_reducible refine (of_any _ 9 9 nine _ HB.nine).mono ?_); rintro e w2 ⟨rfl, hB⟩; rw [upd_nine]; replace HB := HB.step hB; clear hB) | ((with_reducible refine (of_any _ _ _ _ _ (HB.nine.take 4 (by omega))).mono ?_); rintro e w2 ⟨rfl, hB⟩; replace HB := HB.step hB; clear hB) | ((with_reducible refine (of_any none 0 0 [] _ (Bs.nil _ _ _ (by omega))).mono ?_); rintro e w2 ⟨rfl, hB⟩; rw [upd_nil]; replace HB := HB.step hB; clear hB)) | (go_at_call 18; ((refine (update_any _ _ _ _ _ _ (HB.nine.drop 4 (by omega))).mono ?_); rintro e w2 ⟨rfl, hB⟩; rw [upd_four]; replace HB := HB.step hB; clear hB)) | (go_at_call 20; first | ((with_reducible refine (sealed_any _ 7 _ _ 2 _ HB.sev).mono ?_); rintro e w2 ⟨rfl, hB⟩; rw [sealed_two]; replace HB := HB.step hB; clear hB) | ((with_reducible refine (sealed_any _ 7 _ _ 1 _ HB.sev).mono ?_); rintro e w2 ⟨rfl, hB⟩; rw [sealed_one]; replace HB := HB.step hB; clear hB)))
  go_wp2
  go_ret
  exact ⟨rfl, HB.bel⟩
end Go.Proofs.Ytaoaenjhclicfaa
