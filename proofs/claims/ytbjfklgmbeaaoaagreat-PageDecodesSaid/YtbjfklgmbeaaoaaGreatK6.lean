/- The walk of regaugeref07's Wrap. -/
import Derived.Test.YtbjfklgmbeaaoaaGreatK5
set_option linter.unusedVariables false
set_option linter.unusedSimpArgs false
namespace Go.Proofs.YtbjfklgmbeaaoaaGreat
open Go.RowKit

theorem Ow.lits {w : World} {base N : Nat} (hN : w.heap.size = N) (h : base ≤ w.heap.size) (C : Array Value) (xs : List UInt8) (hC : C.toList = u8v xs) (n : Nat) (hn : xs.length = n) (hl : n ≤ 1000) : Ow (w.alloc (.cells C 5)) base (some ⟨N, 0, none⟩) n n xs := by
  subst hN
  have hs : C.size = n := by rw [← Array.length_toList, hC, u8v_length, hn]
  have h := World.ownsRow_lit (base := base) (e := 5) (size := 1) w C n h (by simp [maxLen]; omega) (by simp [hs])
  rw [hC] at h
  exact ⟨h, by omega⟩
def two8 (k g : Int) : List UInt8 := le8 k 1 ++ le8 g 1
def rwHd (k g ct nx : Int) : List UInt8 := ((two8 k g ++ le8 ct 2) ++ (if 1 < g then le8 0 4 else [])) ++ le8 nx (iwI g).toNat
def rwBad (g ct nx : Int) (m : Nat) : Prop := cpI g < (m : Int) ∨ ct < 0 ∨ 65535 < ct ∨ nx < 0 ∨ (g = 1 ∧ 4294967295 < nx)
instance (g ct nx : Int) (m : Nat) : Decidable (rwBad g ct nx m) := by unfold rwBad; infer_instance
def rwE (k g ct nx : Int) (m : Nat) : Int := if knownB k g = true then (if rwBad g ct nx m then 73 else 0) else 70
def rwP (k g ct nx : Int) (ys : List UInt8) : List UInt8 := (rwHd k g ct nx ++ ys) ++ List.replicate (256 - (rwHd k g ct nx ++ ys).length) 0
def rwB (k g ct nx : Int) (ys : List UInt8) : List UInt8 := if rwE k g ct nx ys.length = 0 then (if 1 < g then rsealB (rwP k g ct nx ys) 4 else rwP k g ct nx ys) else []
end Go.Proofs.YtbjfklgmbeaaoaaGreat
