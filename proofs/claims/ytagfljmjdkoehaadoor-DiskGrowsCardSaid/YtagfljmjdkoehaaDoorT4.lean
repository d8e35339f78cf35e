/- Plain laws of DiskGrows. -/
import Derived.Test.YtagfljmjdkoehaaDoorT1
import Derived.Test.YtagfljmjdkoehaaDoorZH
set_option linter.unusedVariables false
set_option linter.unusedSimpArgs false
namespace Go.Proofs.YtagfljmjdkoehaaDoor
open Go.RowKit

structure Gr (L : Int) (d : DV) : Prop where
  row : d.row = []
  down : d.down = false
  lim : d.limit = L
  ok : d.ok (nD d)
  le : (nD d : Int) ≤ L
theorem seen_nil {d : DV} (h : d.row = []) : seenL d.l d.row = d.l := by rw [h]; rfl
/-- What a Grow and a crash that keeps nothing leave. -/
structure Grown1 (L n : Int) (d d1 d2 : DV) (e : Int) : Prop where
  gr : Gr L d2
  im : d2.l = d.l ++ List.replicate (64 * (nD d2 - nD d)) 0
  le : nD d ≤ nD d2
  n1 : nD d1 = nD d2
  l1 : d1.limit = L
  full : L < n → e = 12 ∧ nD d2 = nD d
  went : n ≤ L → e = 0 ∧ ((nD d2 : Nat) : Int) = max ((nD d : Nat) : Int) n
theorem grown_ok {L n : Int} {d : DV} (h : Gr L d) : Grown1 L n d (growD d n) (crashD (growD d n) []) (growE d n) := by
  have hl := h.ok.len
  have hle := h.le
  have hgo := growD_ok h.ok n
  have hco := crashD_ok hgo.1 []
  by_cases hn : L < n
  · have hE : growE d n = 12 := by unfold growE; rw [if_neg (by rw [h.down]; decide), if_pos (by rw [h.lim]; exact hn)]
    have hD : growD d n = d := by unfold growD; rw [if_neg (by rw [hE]; decide)]
    rw [hD] at hco ⊢
    have hc : (crashD d []).l = d.l := by
      show crL [] 0 d.l d.row = d.l
      rw [h.row]; rfl
    refine ⟨⟨rfl, rfl, h.lim, hco.1, by rw [hco.2]; exact hle⟩, ?_, by rw [hco.2]; exact Nat.le_refl _, hco.2.symm, h.lim, fun _ => ⟨hE, hco.2⟩, fun q => by omega⟩
    rw [hc, hco.2, Nat.sub_self, Nat.mul_zero, List.replicate_zero, List.append_nil]
  · have hE : growE d n = 0 := by unfold growE; rw [if_neg (by rw [h.down]; decide), if_neg (by rw [h.lim]; exact hn)]
    have hgn := hgo.2
    rw [if_pos hE] at hgn
    have hD : growD d n = { d with l := d.l ++ List.replicate (64 * (n.toNat - nD d)) 0 } := by unfold growD; rw [if_pos hE]
    have hc : (crashD (growD d n) []).l = d.l ++ List.replicate (64 * (n.toNat - nD d)) 0 := by
      show crL [] 0 (growD d n).l (growD d n).row = _
      rw [hD]
      show crL [] 0 (d.l ++ List.replicate (64 * (n.toNat - nD d)) 0) d.row = _
      rw [h.row]; rfl
    have hlm : (growD d n).limit = L := by rw [hD]; exact h.lim
    refine ⟨⟨rfl, rfl, hlm, hco.1, by rw [hco.2, hgn]; omega⟩, ?_, by rw [hco.2, hgn]; omega, hco.2.symm, hlm, fun q => absurd q hn, fun _ => ⟨hE, by rw [hco.2, hgn]; omega⟩⟩
    rw [hc, hco.2, hgn]
    congr 2
    omega
/-- A slice of ints among the arguments. -/
structure Is (w : World) (A : Option Addr) (n c : Nat) (zs : List Int) : Prop where
  len : zs.length = n
  cells : ∀ j, j < n → ∃ ad, A = some ad ∧ w.cell? (ad.add j) = some (.int .i64 (zs.getD j 0))
theorem Is.below {w w1 : World} {A : Option Addr} {n c : Nat} {zs : List Int} (h : Is w A n c zs) (hB : Below w.heap.size w w1) : Is w1 A n c zs :=
  ⟨h.len, fun j hj => by obtain ⟨ad, e, hc⟩ := h.cells j hj; exact ⟨ad, e, cell_below hB hc⟩⟩
theorem DH.keeps {w0 : World} {g g' : Nat} {R : List (Nat × Obj)} {d1 d2 : DV} {W1 W2 : World} {A : Option Addr} {n c : Nat} {xs : List UInt8} (h1 : DH w0 g R d1 W1) (h2 : DH w0 g' R d2 W2) (hf : Free w0 R A n) (hb : Bs W1 A n c xs) : Bs W2 A n c xs :=
  hb.blk fun a e h0 => by
    rcases hf h0 a e with q | ⟨o, q⟩
    · exact (h2.bel.block _ q).trans (h1.bel.block _ q).symm
    · exact (h2.row q).trans (h1.row q).symm
end Go.Proofs.YtagfljmjdkoehaaDoor
