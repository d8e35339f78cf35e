/- Small words for the rows: a slice of bytes out of an argument's reading. A slice of slices of bytes: read, and opened out of an argument's reading. A meta among the arguments, opened; four truths in an array, opened. -/
import Derived.Test.YthhalmjapiempaaZ1
import Derived.WalkKit
import Derived.ProofKit
import Derived.OpenShut
import Derived.ShutString
import Derived.ChangeOld
import Derived.Below
import Derived.SizedLaws
import Derived.Deep.Slices
import Derived.Lib.SmallJoins
set_option linter.unusedVariables false
set_option linter.unusedSimpArgs false
namespace Go.Proofs.Ythhalmjapiempaa
open Go.ChangeShapes Go.WideShapes Go.ChangeAt Go.RowKit

theorem bs_of_trod {H : Type} {enc : TypeId × Value → H} {W : World} {base : Nat} {spare : Nat → Bool} {held : Bool} {a : Option Addr} {len cap : Nat} {d : DataW H} {ps : List MemPlace}
    (h : DataW.Trod enc Try.prog W base spare held 22 (.slice a len cap) d ps) (hl : len ≤ 140737488355328) : ∃ xs, Bs W a len cap xs := by
  obtain ⟨fuel, hf⟩ := h
  rcases open_ints Try.underlying22 Try.underlying5 (by kernel_rfl) hf with ⟨hcs, _⟩ | ⟨x, l, c, zs, hcs, _, hlc, hm, hz, _, hcell, hwz⟩
  · simp [Value.cells] at hcs
    obtain ⟨rfl, rfl, rfl⟩ := hcs
    exact ⟨[], Bs.nil _ _ _ (by omega)⟩
  · simp [Value.cells] at hcs
    obtain ⟨rfl, rfl, rfl⟩ := hcs
    have hz' : len ≤ zs.length := by
      rw [hz]
      split
      · exact hlc
      · exact Nat.le_refl _
    refine ⟨(zs.take len).map fun z => UInt8.ofNat z.toNat, by simp; omega, hlc, by simpa [maxLen] using hm, hl, fun _ => ⟨x, rfl, fun j hj => ?_⟩⟩
    rw [hcell j (by omega)]
    have hj' : j < zs.length := by omega
    have hw := hwz _ (List.getElem_mem hj')
    have hb : 0 ≤ zs[j] ∧ zs[j] ≤ 255 := bounds_u8 hw
    simp [b8, List.getD_eq_getElem?_getD, hj, List.getElem?_eq_getElem hj']
    omega

theorem int_bounds {x : Int} (h : (Lit.int .i64 x).wf = true) : -9223372036854775808 ≤ x ∧ x ≤ 9223372036854775807 := bounds_i64 h

end Go.Proofs.Ythhalmjapiempaa

set_option linter.unusedVariables false
set_option linter.unusedSimpArgs false
namespace Go.Proofs.Ythhalmjapiempaa
open Go.ChangeShapes Go.WideShapes Go.ChangeAt Go.RowKit

structure Bss (w : World) (A : Option Addr) (n c : Nat) (rows : List (List UInt8)) : Prop where
  len : rows.length = n
  le : n ≤ c
  cap : c ≤ 9223372036854775807
  lim : n ≤ 140737488355328
  cells : 0 < n → ∃ ad, A = some ad ∧ ∀ j, j < n → ∃ B m d, w.cell? (ad.add j) = some (.slice B m d) ∧ Bs w B m d (rows.getD j [])
theorem Bss.atN {w : World} {A : Option Addr} {n c : Nat} {rows : List (List UInt8)} (h : Bss w A n c rows) (i : Nat) (h1 : i < n) :
    ∃ ad, A = some ad ∧ ∃ B m d, w.cell? (ad.add i) = some (.slice B m d) ∧ Bs w B m d (rows.getD i []) := by
  obtain ⟨ad, e, hc⟩ := h.cells (by omega)
  exact ⟨ad, e, hc _ (by omega)⟩
theorem Bss.below {w w1 : World} {A : Option Addr} {n c : Nat} {rows : List (List UInt8)} (h : Bss w A n c rows) (hb : Below w.heap.size w w1) : Bss w1 A n c rows :=
  ⟨h.len, h.le, h.cap, h.lim, fun hn => by
    obtain ⟨ad, e, hc⟩ := h.cells hn
    refine ⟨ad, e, fun j hj => ?_⟩
    obtain ⟨B, m, d, h1, h2⟩ := hc j hj
    exact ⟨B, m, d, cell_below hb h1, h2.below hb⟩⟩
theorem weightsAll_mem {H : Type} {P : Program} {e : TypeId} : ∀ {ds : List (DataW H)} {j : Nat} {d : DataW H}, ds[j]? = some d → ∀ n ∈ d.weights P e, n ∈ DataW.weightsAll P e ds
  | d0 :: ds, 0, d, hd, n, hn => by
    simp only [List.getElem?_cons_zero, Option.some.injEq] at hd
    subst hd
    simp only [DataW.weightsAll, List.mem_append]
    exact Or.inl hn
  | d0 :: ds, j + 1, d, hd, n, hn => by
    simp only [List.getElem?_cons_succ] at hd
    simp only [DataW.weightsAll, List.mem_append]
    exact Or.inr (weightsAll_mem hd n hn)
  | [], _, _, hd, _, _ => by simp at hd
theorem bs_of_fuel {H : Type} {enc : TypeId × Value → H} {W : World} {base fuel : Nat} {spare : Nat → Bool} {held : Bool} {v : Value} {x : DataW H × List MemPlace}
    (h : DataW.trod enc Try.prog W base spare held fuel 22 [v] = some x) (hw : ∀ q ∈ x.1.weights Try.prog 22, q ≤ reachBytes) : ∃ B m d xs, v = .slice B m d ∧ Bs W B m d xs := by
  have h' := h
  rcases open_ints Try.underlying22 Try.underlying5 (by kernel_rfl) h with ⟨hcs, _⟩ | ⟨y, l, c, zs, hcs, _, hlc, hm, hz, hx, hcell, hwz⟩
  · simp only [List.cons.injEq, and_true] at hcs
    subst hcs
    exact ⟨none, 0, 0, [], rfl, Bs.nil _ _ _ (by omega)⟩
  · simp only [List.cons.injEq, and_true] at hcs
    subst hcs
    have hz' : l ≤ zs.length := by
      rw [hz]
      split
      · exact hlc
      · exact Nat.le_refl _
    have hb1 : Try.prog.bytesOf 5 = 1 := by kernel_rfl
    have hl : l ≤ 140737488355328 := by
      rw [hx] at hw
      have := hw (((lits (H := H) .u8 (zs.take l)).length + (lits (H := H) .u8 (zs.drop l)).length) * Try.prog.bytesOf 5) (by simp [DataW.weights, Try.underlying22])
      rw [hb1] at this
      simp [lits, reachBytes] at this
      omega
    obtain ⟨xs, hxs⟩ := bs_of_trod (enc := enc) ⟨fuel, by simpa [Value.cells] using h'⟩ hl
    exact ⟨_, _, _, xs, rfl, hxs⟩
end Go.Proofs.Ythhalmjapiempaa

set_option linter.unusedVariables false
set_option linter.unusedSimpArgs false
namespace Go.Proofs.Ythhalmjapiempaa
open Go.ChangeShapes Go.WideShapes Go.ChangeAt Go.RowKit Go.Joins Go.Deep

theorem list8 {α : Type} {l : List α} (h : l.length = 8) : ∃ c0 c1 c2 c3 c4 c5 c6 c7, l = [c0, c1, c2, c3, c4, c5, c6, c7] := by
  match l, h with
  | [c0, c1, c2, c3, c4, c5, c6, c7], _ => exact ⟨c0, c1, c2, c3, c4, c5, c6, c7, rfl⟩
theorem array8 {α : Type} {cs : Array α} (h : cs.size = 8) : ∃ c0 c1 c2 c3 c4 c5 c6 c7, cs = #[c0, c1, c2, c3, c4, c5, c6, c7] := by
  obtain ⟨l⟩ := cs
  obtain ⟨c0, c1, c2, c3, c4, c5, c6, c7, rfl⟩ := list8 h
  exact ⟨c0, c1, c2, c3, c4, c5, c6, c7, rfl⟩
set_option maxRecDepth 100000 in
theorem meta_open {H : Type} {enc : TypeId × Value → H} {W : World} {base b0 : Nat} {spare : Nat → Bool} {held : Bool} {r : Reach} {v : Value} {d : DataW H} {ps : List MemPlace}
    (hv : Value.okWide Try.prog W r b0 24 v) (h : DataW.Trod enc Try.prog W base spare held 24 v d ps) (hw : ∀ q ∈ d.weights Try.prog 24, q ≤ reachBytes) :
    ∃ ge ph tg tx rt pg li A n c xs, v = .agg #[.int .i64 ge, .int .i64 ph, .int .i64 tg, .int .i64 tx, .int .i64 rt, .int .i64 pg, .int .i64 li, .slice A n c] ∧ Bs W A n c xs := by
  obtain ⟨cs, rfl, hsz⟩ := okWide_struct Try.underlying24 hv
  have hC : Try.prog.cellsOf 24 = 8 := by kernel_rfl
  obtain ⟨c0, c1, c2, c3, c4, c5, c6, c7, rfl⟩ := array8 (hsz.trans hC)
  obtain ⟨fuel, hf⟩ := h
  have ci : Try.prog.cellsOf 3 = 1 := by kernel_rfl
  have cs : Try.prog.cellsOf 22 = 1 := by kernel_rfl
  obtain ⟨ys, n, _, hx, _, hlen, hg⟩ := DataW.trod_struct Try.underlying24 hf
  obtain ⟨y0, y1, y2, y3, y4, y5, y6, y7, rfl⟩ := list8 (l := ys) hlen
  simp only [Prod.mk.injEq] at hx
  obtain ⟨hd, _⟩ := hx
  subst hd
  have g0 : DataW.trod enc Try.prog W base spare held n 3 [c0] = some y0 := by simpa [Value.cells, ci] using hg 0 _ rfl
  have g1 : DataW.trod enc Try.prog W base spare held n 3 [c1] = some y1 := by simpa [Value.cells, ci] using hg 1 _ rfl
  have g2 : DataW.trod enc Try.prog W base spare held n 3 [c2] = some y2 := by simpa [Value.cells, ci] using hg 2 _ rfl
  have g3 : DataW.trod enc Try.prog W base spare held n 3 [c3] = some y3 := by simpa [Value.cells, ci] using hg 3 _ rfl
  have g4 : DataW.trod enc Try.prog W base spare held n 3 [c4] = some y4 := by simpa [Value.cells, ci] using hg 4 _ rfl
  have g5 : DataW.trod enc Try.prog W base spare held n 3 [c5] = some y5 := by simpa [Value.cells, ci] using hg 5 _ rfl
  have g6 : DataW.trod enc Try.prog W base spare held n 3 [c6] = some y6 := by simpa [Value.cells, ci] using hg 6 _ rfl
  have g7 : DataW.trod enc Try.prog W base spare held n 22 [c7] = some y7 := by simpa [Value.cells, cs] using hg 7 _ rfl
  have hw' : ∀ q ∈ y7.1.weights Try.prog 22, q ≤ reachBytes := by
    intro q hq
    refine hw q ?_
    simp only [DataW.weights, Try.underlying24]
    exact DataW.weights_mem_each (j := 7) (t := 22) (d := y7.1) rfl rfl q hq
  obtain ⟨B, mm, dd, xs, e7, hb⟩ := bs_of_fuel g7 hw'
  obtain ⟨i0, e0, _, _⟩ := DataW.trod_int Try.underlying3 g0
  obtain ⟨i1, e1, _, _⟩ := DataW.trod_int Try.underlying3 g1
  obtain ⟨i2, e2, _, _⟩ := DataW.trod_int Try.underlying3 g2
  obtain ⟨i3, e3, _, _⟩ := DataW.trod_int Try.underlying3 g3
  obtain ⟨i4, e4, _, _⟩ := DataW.trod_int Try.underlying3 g4
  obtain ⟨i5, e5, _, _⟩ := DataW.trod_int Try.underlying3 g5
  obtain ⟨i6, e6, _, _⟩ := DataW.trod_int Try.underlying3 g6
  simp only [List.cons.injEq, and_true] at e0 e1 e2 e3 e4 e5 e6
  subst e0 e1 e2 e3 e4 e5 e6 e7
  exact ⟨i0, i1, i2, i3, i4, i5, i6, B, mm, dd, xs, rfl, hb⟩
theorem list4 {α : Type} {l : List α} (h : l.length = 4) : ∃ c0 c1 c2 c3, l = [c0, c1, c2, c3] := by
  match l, h with
  | [c0, c1, c2, c3], _ => exact ⟨c0, c1, c2, c3, rfl⟩
end Go.Proofs.Ythhalmjapiempaa
