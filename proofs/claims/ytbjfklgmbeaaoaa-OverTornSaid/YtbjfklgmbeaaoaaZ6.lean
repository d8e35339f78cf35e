/- Small words for the rows: a slice of bytes out of an argument's reading. A slice of slices of bytes: read, and opened out of an argument's reading. An item among the arguments, opened. -/
import Derived.Test.YtbjfklgmbeaaoaaZ1
import Derived.WalkKit
import Derived.ProofKit
import Derived.OpenShut
import Derived.ShutString
import Derived.ChangeOld
import Derived.Below
import Derived.SizedLaws
import Derived.Deep.Slices
import Derived.Lib.SmallJoins
set_option linter.unusedVariables false
set_option linter.unusedSimpArgs false
namespace Go.Proofs.Ytbjfklgmbeaaoaa
open Go.ChangeShapes Go.WideShapes Go.ChangeAt Go.RowKit

theorem bs_of_trod {H : Type} {enc : TypeId × Value → H} {W : World} {base : Nat} {spare : Nat → Bool} {held : Bool} {a : Option Addr} {len cap : Nat} {d : DataW H} {ps : List MemPlace}
    (h : DataW.Trod enc Try.prog W base spare held 27 (.slice a len cap) d ps) (hl : len ≤ 140737488355328) : ∃ xs, Bs W a len cap xs := by
  obtain ⟨fuel, hf⟩ := h
  rcases open_ints Try.underlying27 Try.underlying5 (by kernel_rfl) hf with ⟨hcs, _⟩ | ⟨x, l, c, zs, hcs, _, hlc, hm, hz, _, hcell, hwz⟩
  · simp [Value.cells] at hcs
    obtain ⟨rfl, rfl, rfl⟩ := hcs
    exact ⟨[], Bs.nil _ _ _ (by omega)⟩
  · simp [Value.cells] at hcs
    obtain ⟨rfl, rfl, rfl⟩ := hcs
    have hz' : len ≤ zs.length := by
      rw [hz]
      split
      · exact hlc
      · exact Nat.le_refl _
    refine ⟨(zs.take len).map fun z => UInt8.ofNat z.toNat, by simp; omega, hlc, by simpa [maxLen] using hm, hl, fun _ => ⟨x, rfl, fun j hj => ?_⟩⟩
    rw [hcell j (by omega)]
    have hj' : j < zs.length := by omega
    have hw := hwz _ (List.getElem_mem hj')
    have hb : 0 ≤ zs[j] ∧ zs[j] ≤ 255 := bounds_u8 hw
    simp [b8, List.getD_eq_getElem?_getD, hj, List.getElem?_eq_getElem hj']
    omega

theorem int_bounds {x : Int} (h : (Lit.int .i64 x).wf = true) : -9223372036854775808 ≤ x ∧ x ≤ 9223372036854775807 := bounds_i64 h

end Go.Proofs.Ytbjfklgmbeaaoaa

set_option linter.unusedVariables false
set_option linter.unusedSimpArgs false
namespace Go.Proofs.Ytbjfklgmbeaaoaa
open Go.ChangeShapes Go.WideShapes Go.ChangeAt Go.RowKit

structure Bss (w : World) (A : Option Addr) (n c : Nat) (rows : List (List UInt8)) : Prop where
  len : rows.length = n
  le : n ≤ c
  cap : c ≤ 9223372036854775807
  lim : n ≤ 140737488355328
  cells : 0 < n → ∃ ad, A = some ad ∧ ∀ j, j < n → ∃ B m d, w.cell? (ad.add j) = some (.slice B m d) ∧ Bs w B m d (rows.getD j [])
theorem Bss.atN {w : World} {A : Option Addr} {n c : Nat} {rows : List (List UInt8)} (h : Bss w A n c rows) (i : Nat) (h1 : i < n) :
    ∃ ad, A = some ad ∧ ∃ B m d, w.cell? (ad.add i) = some (.slice B m d) ∧ Bs w B m d (rows.getD i []) := by
  obtain ⟨ad, e, hc⟩ := h.cells (by omega)
  exact ⟨ad, e, hc _ (by omega)⟩
theorem Bss.below {w w1 : World} {A : Option Addr} {n c : Nat} {rows : List (List UInt8)} (h : Bss w A n c rows) (hb : Below w.heap.size w w1) : Bss w1 A n c rows :=
  ⟨h.len, h.le, h.cap, h.lim, fun hn => by
    obtain ⟨ad, e, hc⟩ := h.cells hn
    refine ⟨ad, e, fun j hj => ?_⟩
    obtain ⟨B, m, d, h1, h2⟩ := hc j hj
    exact ⟨B, m, d, cell_below hb h1, h2.below hb⟩⟩
theorem weightsAll_mem {H : Type} {P : Program} {e : TypeId} : ∀ {ds : List (DataW H)} {j : Nat} {d : DataW H}, ds[j]? = some d → ∀ n ∈ d.weights P e, n ∈ DataW.weightsAll P e ds
  | d0 :: ds, 0, d, hd, n, hn => by
    simp only [List.getElem?_cons_zero, Option.some.injEq] at hd
    subst hd
    simp only [DataW.weightsAll, List.mem_append]
    exact Or.inl hn
  | d0 :: ds, j + 1, d, hd, n, hn => by
    simp only [List.getElem?_cons_succ] at hd
    simp only [DataW.weightsAll, List.mem_append]
    exact Or.inr (weightsAll_mem hd n hn)
  | [], _, _, hd, _, _ => by simp at hd
theorem bs_of_fuel {H : Type} {enc : TypeId × Value → H} {W : World} {base fuel : Nat} {spare : Nat → Bool} {held : Bool} {v : Value} {x : DataW H × List MemPlace}
    (h : DataW.trod enc Try.prog W base spare held fuel 27 [v] = some x) (hw : ∀ q ∈ x.1.weights Try.prog 27, q ≤ reachBytes) : ∃ B m d xs, v = .slice B m d ∧ Bs W B m d xs := by
  have h' := h
  rcases open_ints Try.underlying27 Try.underlying5 (by kernel_rfl) h with ⟨hcs, _⟩ | ⟨y, l, c, zs, hcs, _, hlc, hm, hz, hx, hcell, hwz⟩
  · simp only [List.cons.injEq, and_true] at hcs
    subst hcs
    exact ⟨none, 0, 0, [], rfl, Bs.nil _ _ _ (by omega)⟩
  · simp only [List.cons.injEq, and_true] at hcs
    subst hcs
    have hz' : l ≤ zs.length := by
      rw [hz]
      split
      · exact hlc
      · exact Nat.le_refl _
    have hb1 : Try.prog.bytesOf 5 = 1 := by kernel_rfl
    have hl : l ≤ 140737488355328 := by
      rw [hx] at hw
      have := hw (((lits (H := H) .u8 (zs.take l)).length + (lits (H := H) .u8 (zs.drop l)).length) * Try.prog.bytesOf 5) (by simp [DataW.weights, Try.underlying27])
      rw [hb1] at this
      simp [lits, reachBytes] at this
      omega
    obtain ⟨xs, hxs⟩ := bs_of_trod (enc := enc) ⟨fuel, by simpa [Value.cells] using h'⟩ hl
    exact ⟨_, _, _, xs, rfl, hxs⟩
theorem bss_of_trod {H : Type} {enc : TypeId × Value → H} {W : World} {base : Nat} {spare : Nat → Bool} {held : Bool} {a : Option Addr} {len cap : Nat} {d : DataW H} {ps : List MemPlace}
    (h : DataW.Trod enc Try.prog W base spare held 43 (.slice a len cap) d ps) (hw : ∀ q ∈ d.weights Try.prog 43, q ≤ reachBytes) : ∃ rows, Bss W a len cap rows := by
  obtain ⟨fuel, hf⟩ := h
  rcases Go.Deep.open_slice1 Try.underlying43 (by kernel_rfl) hf with ⟨hcs, _⟩ | ⟨x, l, c, m, n, V, D, Pl, hcs, _, hlc, hm, hmm, hx, he⟩
  · simp [Value.cells] at hcs
    obtain ⟨rfl, rfl, rfl⟩ := hcs
    exact ⟨[], rfl, Nat.le_refl _, by omega, by omega, fun h => absurd h (by omega)⟩
  · simp [Value.cells] at hcs
    obtain ⟨rfl, rfl, rfl⟩ := hcs
    simp only [Prod.mk.injEq] at hx
    obtain ⟨hd, _⟩ := hx
    subst hd
    have hle : len ≤ m := by
      rw [hmm]
      split
      · exact hlc
      · exact Nat.le_refl _
    have hb24 : 1 ≤ Try.prog.bytesOf 27 := of_decide_eq_true (by kernel_rfl)
    have hl : len ≤ 140737488355328 := by
      have := hw ((((List.range len).map D).length + ((List.range (m - len)).map fun j => D (len + j)).length) * Try.prog.bytesOf 27) (by simp [DataW.weights, Try.underlying43])
      have h2 := Nat.le_trans (Nat.le_mul_of_pos_right _ hb24) this
      simp [reachBytes] at h2
      omega
    have each : ∀ j, j < len → ∃ y : Option Addr × Nat × Nat × List UInt8, V j = .slice y.1 y.2.1 y.2.2.1 ∧ Bs W y.1 y.2.1 y.2.2.1 y.2.2.2 := by
      intro j hj
      obtain ⟨B, k, e, xs, h1, h2⟩ := bs_of_fuel (he j (by omega)).2 (fun q hq => hw q (by
        simp only [DataW.weights, Try.underlying43, List.mem_cons, List.mem_append]
        refine .inr (.inl (weightsAll_mem (j := j) (d := D j) ?_ q hq))
        simp [hj]))
      exact ⟨(B, k, e, xs), h1, h2⟩
    obtain ⟨y, hy⟩ := Go.Deep.choose_lt each
    refine ⟨(List.range len).map fun j => (y j).2.2.2, by simp, hlc, by simpa [maxLen] using hm, hl, fun _ => ⟨x, rfl, fun j hj => ⟨(y j).1, (y j).2.1, (y j).2.2.1, ?_, ?_⟩⟩⟩
    · rw [(he j (by omega)).1, (hy j hj).1]
    · have := (hy j hj).2
      simpa [List.getD_eq_getElem?_getD, hj] using this

end Go.Proofs.Ytbjfklgmbeaaoaa

set_option linter.unusedVariables false
set_option linter.unusedSimpArgs false
namespace Go.Proofs.Ytbjfklgmbeaaoaa
open Go.ChangeShapes Go.WideShapes Go.ChangeAt Go.RowKit Go.Joins Go.Deep

set_option maxRecDepth 100000 in
theorem item_open {H : Type} {enc : TypeId × Value → H} {W : World} {base b0 : Nat} {spare : Nat → Bool} {held : Bool} {r : Reach} {v : Value} {d : DataW H} {ps : List MemPlace}
    (hv : Value.okWide Try.prog W r b0 119 v) (h : DataW.Trod enc Try.prog W base spare held 119 v d ps) (hw : ∀ q ∈ d.weights Try.prog 119, q ≤ reachBytes) :
    ∃ Ak nk ck xs Av nv cv ys s t, v = .agg #[.slice Ak nk ck, .slice Av nv cv, .int .i64 s, .int .i64 t] ∧ Bs W Ak nk ck xs ∧ Bs W Av nv cv ys ∧ (-9223372036854775808 ≤ s ∧ s ≤ 9223372036854775807) ∧ (-9223372036854775808 ≤ t ∧ t ≤ 9223372036854775807) := by
  obtain ⟨v0, v1, v2, v3, y0, y1, y2, y3, n, rfl, rfl, _, h0, h1, h2, h3⟩ := open_agg4 Try.underlying119 (by kernel_rfl) (by kernel_rfl) hv h
  have hw' : ∀ (j : Nat) (t : TypeId) (d : DataW H), [27, 27, 3, 3][j]? = some t → [y0.1, y1.1, y2.1, y3.1][j]? = some d → ∀ q ∈ d.weights Try.prog t, q ≤ reachBytes := by
    intro j t d ht hd q hq
    refine hw q ?_
    simp only [DataW.weights, Try.underlying119]
    exact DataW.weights_mem_each (j := j) ht hd q hq
  obtain ⟨Ak, nk, ck, xs, rfl, hb0⟩ := bs_of_fuel h0 (hw' 0 _ _ rfl rfl)
  obtain ⟨Av, nv, cv, ys, rfl, hb1⟩ := bs_of_fuel h1 (hw' 1 _ _ rfl rfl)
  obtain ⟨s, hs, _, ws⟩ := DataW.trod_int Try.underlying3 h2
  obtain ⟨t, ht, _, wt⟩ := DataW.trod_int Try.underlying3 h3
  simp only [List.cons.injEq, and_true] at hs ht
  subst hs
  subst ht
  exact ⟨Ak, nk, ck, xs, Av, nv, cv, ys, s, t, rfl, hb0, hb1, int_bounds ws, int_bounds wt⟩

end Go.Proofs.Ytbjfklgmbeaaoaa
