/- The walks of regaugeref09's number, and what its Decode reads. The walk of regaugeref09's Decode. -/
import Derived.Test.YthhalmjapiempaaZ8
import Derived.Test.YthhalmjapiempaaZ7
set_option linter.unusedVariables false
set_option linter.unusedSimpArgs false
namespace Go.Proofs.Ythhalmjapiempaa
open Go.RowKit

def numR (xs : List UInt8) : Int := if leN (xs.drop 1) ≤ 1099511627776 then (leN xs : Int) else -1
theorem leN_drop_le (xs : List UInt8) (j : Nat) : leN (xs.drop j) ≤ leN xs := by
  induction xs generalizing j with
  | nil => simp
  | cons x t ih =>
    cases j with
    | zero => exact Nat.le_refl _
    | succ j => rw [List.drop_succ_cons]; have := ih j; rw [leN]; omega
def rfW (xs : List UInt8) : Nat := (iwI (b8 xs 4)).toNat
def rfN (xs : List UInt8) (k : Nat) : Int := numR ((xs.drop (8 + k * rfW xs)).take (rfW xs))
def rfEnd (xs : List UInt8) : Nat := 8 + 4 * rfW xs + (b8 xs 7).toNat
def rfCu (xs : List UInt8) : List UInt8 := (xs.drop (8 + 4 * rfW xs)).take (b8 xs 7).toNat
def rfZ (xs : List UInt8) : Bool := ((xs.take 248).drop (rfEnd xs)).all (fun b => b == 0)
/-- Why the reference's Decode says no; 0: it does not. -/
def refE (xs : List UInt8) : Int :=
  if xs.length = 256 ∧ xs.take 4 = magicL ∧ (xs.take 252).drop 248 = tailL then
    if rsealB xs 252 = xs then
      if 1 ≤ b8 xs 4 ∧ b8 xs 4 ≤ 3 ∧ b8 xs 6 ≤ 3 then
        if rfEnd xs ≤ 248 ∧ rfZ xs = true ∧ mrightB (b8 xs 4) (b8 xs 5) (b8 xs 6) (rfN xs 0) (rfN xs 1) (rfN xs 2) (rfN xs 3) (rfCu xs).length = true then 0 else 92
      else 93
    else 91
  else 90
theorem ref_ok {xs : List UInt8} (h : refE xs = 0) : xs.length = 256 ∧ xs.take 4 = magicL ∧ (xs.take 252).drop 248 = tailL ∧ rsealB xs 252 = xs ∧ 1 ≤ b8 xs 4 ∧ b8 xs 4 ≤ 3 ∧ b8 xs 6 ≤ 3 ∧ rfEnd xs ≤ 248 ∧ rfZ xs = true ∧ mrightB (b8 xs 4) (b8 xs 5) (b8 xs 6) (rfN xs 0) (rfN xs 1) (rfN xs 2) (rfN xs 3) (rfCu xs).length = true := by
  unfold refE at h
  split at h
  · rename_i h1
    split at h
    · rename_i h2
      split at h
      · rename_i h3
        split at h
        · rename_i h4
          exact ⟨h1.1, h1.2.1, h1.2.2, h2, h3.1, h3.2.1, h3.2.2, h4.1, h4.2.1, h4.2.2⟩
        · omega
      · omega
    · omega
  · omega
end Go.Proofs.Ythhalmjapiempaa

set_option linter.unusedVariables false
set_option linter.unusedSimpArgs false
namespace Go.Proofs.Ythhalmjapiempaa
open Go.RowKit

end Go.Proofs.Ythhalmjapiempaa
