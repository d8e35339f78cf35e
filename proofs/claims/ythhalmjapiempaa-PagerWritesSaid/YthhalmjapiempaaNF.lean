/- Plain laws: a disk loaded of a whole image, and what two commits behind each other leave. -/
import Derived.Test.YthhalmjapiempaaNC
set_option linter.unusedVariables false
set_option linter.unusedSimpArgs false
namespace Go.Proofs.Ythhalmjapiempaa
open Go.RowKit

theorem loadL_all (x : List UInt8) : ∀ n, n * 64 ≤ x.length → loadL x n = x.take (n * 64)
  | 0, _ => by simp [loadL]
  | n + 1, h => by
    have hl : ((x.drop (64 * n)).take 64).length = 64 := by rw [List.length_take, List.length_drop]; omega
    rw [loadL, loadL_all x n (by omega), sgL, hl, Nat.sub_self, List.replicate_zero, List.append_nil, Nat.add_mul, Nat.one_mul, List.take_add, Nat.mul_comm 64 n]
/-- A disk that holds just an image. -/
def lodD (x : List UInt8) (lim : Int) : DV := ⟨limI lim, loadL x (cntL x.length (limI lim)), [], 0, -1, false⟩
theorem lodD_up (x : List UInt8) (lim : Int) : Up (lodD x lim) := by
  refine ⟨?_, rfl, rfl⟩
  have hn : nD (lodD x lim) = cntL x.length (limI lim) := nD_of (d := lodD x lim) (loadL_len x _)
  rw [hn]
  exact newD_ok _ (limI_le lim).1 (limI_le lim).2 _ _ (loadL_len x _)
/-- What two commits leave, and what a disk tells from which the second one's page is lost. -/
structure Two (l more : List (Int × List UInt8)) (m n : MV) (d1 d2 : DV) : Prop where
  e1 : (commitS (newDV 400) l m).1 = 0
  u1 : Up d1
  r1 : d1.row = []
  o1 : d1.ops = (l.length : Int) + 4
  e2 : (commitS d1 more n).1 = 0
  nat : newAt d2 = n.tx % 2
  ne : newE d2 = 0
  nm : newM d2 = n
  n2 : nD d2 = 4 * m.pg.toNat
  len : (seenL d2.l d2.row).length = nD d2 * 64
  at3 : newAt (lodD (putL (seenL d2.l d2.row) (List.replicate 256 0) (256 * (n.tx % 2).toNat)) 400) = m.tx % 2
  ne3 : newE (lodD (putL (seenL d2.l d2.row) (List.replicate 256 0) (256 * (n.tx % 2).toNat)) 400) = 0
  nm3 : newM (lodD (putL (seenL d2.l d2.row) (List.replicate 256 0) (256 * (n.tx % 2).toNat)) 400) = m
end Go.Proofs.Ythhalmjapiempaa
