/- Plain laws: a disk loaded of a whole image, and what two commits behind each other leave. -/
import Derived.Test.YthhalmjapiempaaNC
set_option linter.unusedVariables false
set_option linter.unusedSimpArgs false
namespace Go.Proofs.Ythhalmjapiempaa
open Go.RowKit

theorem loadL_all (x : List UInt8) : ∀ n, n * 64 ≤ x.length → loadL x n = x.take (n * 64)
  | 0, _ => by simp [loadL]
  | n + 1, h => by
    have hl : ((x.drop (64 * n)).take 64).length = 64 := by rw [List.length_take, List.length_drop]; omega
    rw [loadL, loadL_all x n (by omega), sgL, hl, Nat.sub_self, List.replicate_zero, List.append_nil, Nat.add_mul, Nat.one_mul, List.take_add, Nat.mul_comm 64 n]
/-- A disk that holds just an image. -/
def lodD (x : List UInt8) (lim : Int) : DV := ⟨limI lim, loadL x (cntL x.length (limI lim)), [], 0, -1, false⟩
theorem lodD_up (x : List UInt8) (lim : Int) : Up (lodD x lim) := by
  refine ⟨?_, rfl, rfl⟩
  have hn : nD (lodD x lim) = cntL x.length (limI lim) := nD_of (d := lodD x lim) (loadL_len x _)
  rw [hn]
  exact newD_ok _ (limI_le lim).1 (limI_le lim).2 _ _ (loadL_len x _)
theorem lodD_all (x : List UInt8) (n : Nat) (lim : Int) (h : x.length = n * 64) (hl : (n : Int) ≤ limI lim) : nD (lodD x lim) = n ∧ imD (lodD x lim) = x := by
  have hc : cntL x.length (limI lim) = n := by unfold cntL; omega
  have e : (lodD x lim).l = x := by
    show loadL x (cntL x.length (limI lim)) = x
    rw [hc, loadL_all x n (by omega), ← h, List.take_length]
  have hi : imD (lodD x lim) = (lodD x lim).l := rfl
  exact ⟨nD_of (by rw [e]; exact h), by rw [hi, e]⟩
/-- What two commits leave, and what a disk tells from which the second one's page is lost. -/
structure Two (l more : List (Int × List UInt8)) (m n : MV) (d1 d2 : DV) : Prop where
  e1 : (commitS (newDV 400) l m).1 = 0
  u1 : Up d1
  r1 : d1.row = []
  o1 : d1.ops = (l.length : Int) + 4
  e2 : (commitS d1 more n).1 = 0
  nat : newAt d2 = n.tx % 2
  ne : newE d2 = 0
  nm : newM d2 = n
  n2 : nD d2 = 4 * m.pg.toNat
  len : (seenL d2.l d2.row).length = nD d2 * 64
  at3 : newAt (lodD (putL (seenL d2.l d2.row) (List.replicate 256 0) (256 * (n.tx % 2).toNat)) 400) = m.tx % 2
  ne3 : newE (lodD (putL (seenL d2.l d2.row) (List.replicate 256 0) (256 * (n.tx % 2).toNat)) 400) = 0
  nm3 : newM (lodD (putL (seenL d2.l d2.row) (List.replicate 256 0) (256 * (n.tx % 2).toNat)) 400) = m
theorem two_ok {l more : List (Int × List UInt8)} {m n : MV} (ht : n.tx = m.tx + 1) (hg : n.pg = m.pg) (h1 : prgB l m = true) (h2 : prgB more n = true) (hp : m.pg ≤ 40) :
    Two l more m n (commitS (newDV 400) l m).2 (commitS (commitS (newDV 400) l m).2 more n).2 := by
  have hb := prgB_pg h1
  have hlm : limI 400 = 400 := by decide
  obtain ⟨k1, k2, k3, k4⟩ := commit_ok (newDV_up 400) h1 (by show 4 * m.pg ≤ limI 400; omega)
  obtain ⟨d1, hd1⟩ : ∃ x, (commitS (newDV 400) l m).2 = x := ⟨_, rfl⟩
  rw [hd1] at k2 k3 k4 ⊢
  have hn0 : nD (newDV 400) = 0 := by simp [nD, newDV]
  have hn1 : nD d1 = 4 * m.pg.toNat := by rw [k2.n, hn0]; omega
  have hl1 : d1.limit = 400 := by rw [k2.lim]; exact hlm
  obtain ⟨j1, j2, j3, j4⟩ := commit_ok k2.up h2 (by rw [hl1, hg]; omega)
  obtain ⟨d2, hd2⟩ : ∃ x, (commitS d1 more n).2 = x := ⟨_, rfl⟩
  rw [hd2] at j2 j3 j4 ⊢
  have hn2 : nD d2 = 4 * m.pg.toNat := by rw [j2.n, hn1, hg]; omega
  have hz : 64 * (4 * n.pg.toNat - nD d1) = 0 := by rw [hn1, hg]; omega
  have hs : (m.tx % 2).toNat ≠ (n.tx % 2).toNat := by rw [ht]; omega
  have hs1 : 1 - (n.tx % 2).toNat = (m.tx % 2).toNat := by rw [ht]; omega
  have hs2 : 1 - (m.tx % 2).toNat = (n.tx % 2).toNat := by rw [ht]; omega
  have hsn := slot_lt n.tx
  have hsm := slot_lt m.tx
  have j5 := j4 _ hs ((prgB_in h2).2 _ hsm)
  rw [hz, List.replicate_zero, List.append_nil, k3] at j5
  obtain ⟨n1, n2, n3⟩ := newest_at j2.up.ok j2.up.up (by omega) (right_of h2) j3 (fun _ _ => by
    rw [hs1, j5, (encM_dec (right_of h1)).2.2, ht]; omega)
  have hlen : (imD d2).length = nD d2 * 64 := imD_len j2.up.ok
  obtain ⟨x, hx⟩ : ∃ x, imD d2 = x := ⟨_, rfl⟩
  have hz : (List.replicate 256 (0 : UInt8)).length = 256 := List.length_replicate
  have hpl : (putL x (List.replicate 256 0) (256 * (n.tx % 2).toNat)).length = x.length := putL_length _ _ _ (by rw [hz, ← hx, hlen]; omega)
  obtain ⟨q1, q2⟩ := lodD_all (putL x (List.replicate 256 0) (256 * (n.tx % 2).toNat)) (nD d2) 400 (by rw [hpl, ← hx, hlen]) (by rw [hlm]; omega)
  have hu := lodD_up (putL x (List.replicate 256 0) (256 * (n.tx % 2).toNat)) 400
  have hxl : 256 * (n.tx % 2).toNat + (List.replicate 256 (0 : UInt8)).length ≤ x.length := by rw [hz, ← hx, hlen]; omega
  obtain ⟨p1, p2, p3⟩ := newest_at hu.ok hu.up (by rw [q1]; omega) (right_of h1) (by rw [q2, pgB_away _ _ _ _ hxl (by rw [hz]; omega), ← hx]; exact j5) (fun e _ => by
    rw [hs2, q2, pgB_in _ _ _ hxl hz, dec_zeros] at e
    exact absurd e (by decide))
  refine ⟨k1, k2.up, k2.row, ?_, j1, n1, n2, n3, hn2, hlen, ?_, ?_, ?_⟩
  · rw [k2.ops]; show (0 : Int) + ((l.length + 4 : Nat) : Int) = _; omega
  · rw [show seenL d2.l d2.row = x from hx]; exact p1
  · rw [show seenL d2.l d2.row = x from hx]; exact p2
  · rw [show seenL d2.l d2.row = x from hx]; exact p3
end Go.Proofs.Ythhalmjapiempaa
