/- A node among the arguments, however long its slices. -/
import Derived.Test.YtbjfklgmbeaaoaaV3
set_option linter.unusedVariables false
set_option linter.unusedSimpArgs false
namespace Go.Proofs.Ytbjfklgmbeaaoaa
open Go.RowKit

structure RcL (w : World) (k : Nat) (A : Option Addr) (n c : Nat) (xs : List Value) : Prop where
  len : xs.length = n * k
  le : n ≤ c
  cap : c ≤ 9223372036854775807
  lim : n ≤ 140737488355328
  one : ∀ v, v ∈ xs → v.oneCell' = true
  cells : 0 < n → ∃ ad, A = some ad ∧ ∀ j u, xs[j]? = some u → w.cell? (ad.add j) = some u
theorem RcL.rc {w : World} {k n c : Nat} {A : Option Addr} {xs : List Value} (h : RcL w k A n c xs) (hn : n ≤ 1000000000) : Rc w k A n c xs := ⟨h.len, h.le, h.cap, hn, h.one, h.cells⟩
/-- A node in memory, however long its slices. -/
structure NdL (W : World) (h : NH) (is : List IH) (ks : List KH) (v : NV) : Prop where
  leaf : h.leaf = v.leaf
  ri : RcL W 4 h.I.1 h.I.2.1 h.I.2.2 (ihv is)
  rk : RcL W 2 h.K.1 h.K.2.1 h.K.2.2 (khv ks)
  li : is.length = h.I.2.1
  lk : ks.length = h.K.2.1
  its : Its W is v.items
  kds : Kds W ks v.kids
theorem NdL.nd {W : World} {h : NH} {is : List IH} {ks : List KH} {v : NV} (k : NdL W h is ks v) (h1 : h.I.2.1 ≤ 1000) (h2 : h.K.2.1 ≤ 1000) : Nd W h is ks v := ⟨k.leaf, k.ri.rc (by omega), k.rk.rc (by omega), k.li, k.lk, k.its, k.kds, h1, h2⟩
end Go.Proofs.Ytbjfklgmbeaaoaa
