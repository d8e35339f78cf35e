/- A slice of calls (Op): read; and the walk of few. -/
import Derived.Test.YtfhajobcfdmllaaH4
set_option linter.unusedVariables false
set_option linter.unusedSimpArgs false
namespace Go.Proofs.Ytfhajobcfdmllaa
open Go.RowKit

/-- A call, as a value. -/
structure OpV where
  k : Int
  n : Int
  wd : Int
  ys : List UInt8
/-- Its cells, from a place on. -/
structure OpC (w : World) (p : Addr) (o : OpV) (B : Option Addr) (m d : Nat) : Prop where
  c0 : w.cell? p = some (.int .i64 o.k)
  c1 : w.cell? ⟨p.block, p.off + 1, none⟩ = some (.int .i64 o.n)
  c2 : w.cell? ⟨p.block, p.off + 2, none⟩ = some (.int .i64 o.wd)
  c3 : w.cell? ⟨p.block, p.off + 3, none⟩ = some (.slice B m d)
  row : Bs w B m d o.ys
  bk : -9223372036854775808 ≤ o.k ∧ o.k ≤ 9223372036854775807
  bn : -9223372036854775808 ≤ o.n ∧ o.n ≤ 9223372036854775807
  bw : -9223372036854775808 ≤ o.wd ∧ o.wd ≤ 9223372036854775807
theorem OpC.below {w w1 : World} {p : Addr} {o : OpV} {B : Option Addr} {m d : Nat} (h : OpC w p o B m d) (hb : Below w.heap.size w w1) : OpC w1 p o B m d :=
  ⟨cell_below hb h.c0, cell_below hb h.c1, cell_below hb h.c2, cell_below hb h.c3, h.row.below hb, h.bk, h.bn, h.bw⟩
structure Ops (w : World) (A : Option Addr) (n c : Nat) (l : List OpV) : Prop where
  len : l.length = n
  le : n ≤ c
  cap : c ≤ 9223372036854775807
  lim : n ≤ 140737488355328
  cells : 0 < n → ∃ ad, A = some ad ∧ ∀ j, (hj : j < n) → ∃ B m d, OpC w (ad.add (j * 4)) (l.getD j ⟨0, 0, 0, []⟩) B m d
theorem Ops.atN {w : World} {A : Option Addr} {n c : Nat} {l : List OpV} (h : Ops w A n c l) (i : Nat) (h1 : i < n) :
    ∃ ad, A = some ad ∧ ∃ B m d, OpC w (ad.add (i * 4)) (l.getD i ⟨0, 0, 0, []⟩) B m d := by
  obtain ⟨ad, e, hc⟩ := h.cells (by omega)
  exact ⟨ad, e, hc _ h1⟩
theorem Ops.below {w w1 : World} {A : Option Addr} {n c : Nat} {l : List OpV} (h : Ops w A n c l) (hb : Below w.heap.size w w1) : Ops w1 A n c l :=
  ⟨h.len, h.le, h.cap, h.lim, fun hn => by
    obtain ⟨ad, e, hc⟩ := h.cells hn
    exact ⟨ad, e, fun j hj => by obtain ⟨B, m, d, h1⟩ := hc j hj; exact ⟨B, m, d, h1.below hb⟩⟩⟩
/-- All its bytes, counted as the program counts. -/
def totW (l : List OpV) : Nat → Int
  | 0 => 0
  | k + 1 => wrap64 (totW l k + ((l.getD k ⟨0, 0, 0, []⟩).ys.length : Int))

set_option maxHeartbeats 2000000 in
set_option maxRecDepth 100000 in
theorem few_any (A : Option Addr) (n c : Nat) (l : List OpV) (w : World) (h : Ops w A n c l) :
    Calls Try.prog 14 #[.slice A n c] w fun e w' => e = .returned (.bool (decide (n ≤ 100 ∧ totW l n ≤ 4000))) ∧ Below w.heap.size w w' := by
  have hlim := h.lim
  have HH := Aside0.mk h
  clear h
  go_enter Try.func14, Try.ntmps14
  go_wp2_with fail
  go_loopg [3, 5, 8] n (fun k v3 v5 v8 wr => ∃ j : Nat, Aside (k + j = n) ∧ v8 = .int .i64 (j : Int) ∧ v3 = .int .i64 (totW l j) ∧ Aside0 (Below w.heap.size w wr))
  case atStart => exact ⟨0, rfl, rfl, rfl, ⟨Below.refl _ _⟩⟩
  case round =>
    obtain ⟨j, hk, rfl, rfl, hB⟩ := hrel
    have hjb : j ≤ n := by have := hk.out; omega
    by_cases hlt : j < n
    · obtain ⟨ad, rfl, B, m, d, hop⟩ := HH.out.atN j hlt
      replace hop := hop.below hB.out
      obtain ⟨o, ho⟩ : ∃ o, l.getD j ⟨0, 0, 0, []⟩ = o := ⟨_, rfl⟩
      rw [ho] at hop
      obtain ⟨c0, c1, c2, c3, hrow, _, _, _⟩ := hop
      have hjn : (j : Int) < (n : Int) := by omega
      have ht : totW l (j + 1) = wrap64 (totW l j + (m : Int)) := by
        show wrap64 (totW l j + ((l.getD j ⟨0, 0, 0, []⟩).ys.length : Int)) = _
        rw [ho, hrow.len]
      clear hrow
      go_wp2_with fail
      go_roundg (n - (j + 1))
      case measure => have := hk.out; omega
      case rel => exact ⟨j + 1, by have := hk.out; exact (show n - (j + 1) + (j + 1) = n by omega), by go_num, by rw [ht], ⟨hB.out.alloc hB.out.size _⟩⟩
    · obtain rfl : j = n := by omega
      by_cases h1 : j ≤ 100
      · have f1 : decide ((j : Int) ≤ 100) = true := decide_eq_true (by omega)
        go_wp2
        go_ret
        exact ⟨by first | done | rfl | simp [h1], hB.out⟩
      · have f1 : decide ((j : Int) ≤ 100) = false := decide_eq_false (by omega)
        go_wp2
        go_ret
        exact ⟨by first | done | rfl | simp [h1], hB.out⟩
end Go.Proofs.Ytfhajobcfdmllaa
