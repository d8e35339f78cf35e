/- A slice of calls (Op): read; and the walk of few. -/
import Derived.Test.YtenibcbodjkglaaH4
set_option linter.unusedVariables false
set_option linter.unusedSimpArgs false
namespace Go.Proofs.Ytenibcbodjkglaa
open Go.RowKit

/-- A call, as a value. -/
structure OpV where
  k : Int
  n : Int
  wd : Int
  ys : List UInt8
/-- Its cells, from a place on. -/
structure OpC (w : World) (p : Addr) (o : OpV) (B : Option Addr) (m d : Nat) : Prop where
  c0 : w.cell? p = some (.int .i64 o.k)
  c1 : w.cell? ⟨p.block, p.off + 1, none⟩ = some (.int .i64 o.n)
  c2 : w.cell? ⟨p.block, p.off + 2, none⟩ = some (.int .i64 o.wd)
  c3 : w.cell? ⟨p.block, p.off + 3, none⟩ = some (.slice B m d)
  row : Bs w B m d o.ys
  bk : -9223372036854775808 ≤ o.k ∧ o.k ≤ 9223372036854775807
  bn : -9223372036854775808 ≤ o.n ∧ o.n ≤ 9223372036854775807
  bw : -9223372036854775808 ≤ o.wd ∧ o.wd ≤ 9223372036854775807
theorem OpC.below {w w1 : World} {p : Addr} {o : OpV} {B : Option Addr} {m d : Nat} (h : OpC w p o B m d) (hb : Below w.heap.size w w1) : OpC w1 p o B m d :=
  ⟨cell_below hb h.c0, cell_below hb h.c1, cell_below hb h.c2, cell_below hb h.c3, h.row.below hb, h.bk, h.bn, h.bw⟩
structure Ops (w : World) (A : Option Addr) (n c : Nat) (l : List OpV) : Prop where
  len : l.length = n
  le : n ≤ c
  cap : c ≤ 9223372036854775807
  lim : n ≤ 140737488355328
  cells : 0 < n → ∃ ad, A = some ad ∧ ∀ j, (hj : j < n) → ∃ B m d, OpC w (ad.add (j * 4)) (l.getD j ⟨0, 0, 0, []⟩) B m d
theorem Ops.atN {w : World} {A : Option Addr} {n c : Nat} {l : List OpV} (h : Ops w A n c l) (i : Nat) (h1 : i < n) :
    ∃ ad, A = some ad ∧ ∃ B m d, OpC w (ad.add (i * 4)) (l.getD i ⟨0, 0, 0, []⟩) B m d := by
  obtain ⟨ad, e, hc⟩ := h.cells (by omega)
  exact ⟨ad, e, hc _ h1⟩
theorem Ops.below {w w1 : World} {A : Option Addr} {n c : Nat} {l : List OpV} (h : Ops w A n c l) (hb : Below w.heap.size w w1) : Ops w1 A n c l :=
  ⟨h.len, h.le, h.cap, h.lim, fun hn => by
    obtain ⟨ad, e, hc⟩ := h.cells hn
    exact ⟨ad, e, fun j hj => by obtain ⟨B, m, d, h1⟩ := hc j hj; exact ⟨B, m, d, h1.below hb⟩⟩⟩
/-- All its bytes, counted as the program counts. -/
def totW (l : List OpV) : Nat → Int
  | 0 => 0
  | k + 1 => wrap64 (totW l k + ((l.getD k ⟨0, 0, 0, []⟩).ys.length : Int))

end Go.Proofs.Ytenibcbodjkglaa
