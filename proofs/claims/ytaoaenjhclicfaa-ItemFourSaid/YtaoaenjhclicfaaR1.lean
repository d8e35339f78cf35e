/- A slice of slices of bytes: read, and opened out of an argument's reading. -/
import Derived.Test.YtaoaenjhclicfaaR0
import Derived.Deep.Slices
set_option linter.unusedVariables false
set_option linter.unusedSimpArgs false
namespace Go.Proofs.Ytaoaenjhclicfaa
open Go.ChangeShapes Go.WideShapes Go.ChangeAt Go.RowKit

structure Bss (w : World) (A : Option Addr) (n c : Nat) (rows : List (List UInt8)) : Prop where
  len : rows.length = n
  le : n ≤ c
  cap : c ≤ 9223372036854775807
  lim : n ≤ 140737488355328
  cells : 0 < n → ∃ ad, A = some ad ∧ ∀ j, j < n → ∃ B m d, w.cell? (ad.add j) = some (.slice B m d) ∧ Bs w B m d (rows.getD j [])
theorem Bss.atN {w : World} {A : Option Addr} {n c : Nat} {rows : List (List UInt8)} (h : Bss w A n c rows) (i : Nat) (h1 : i < n) :
    ∃ ad, A = some ad ∧ ∃ B m d, w.cell? (ad.add i) = some (.slice B m d) ∧ Bs w B m d (rows.getD i []) := by
  obtain ⟨ad, e, hc⟩ := h.cells (by omega)
  exact ⟨ad, e, hc _ (by omega)⟩
theorem Bss.below {w w1 : World} {A : Option Addr} {n c : Nat} {rows : List (List UInt8)} (h : Bss w A n c rows) (hb : Below w.heap.size w w1) : Bss w1 A n c rows :=
  ⟨h.len, h.le, h.cap, h.lim, fun hn => by
    obtain ⟨ad, e, hc⟩ := h.cells hn
    refine ⟨ad, e, fun j hj => ?_⟩
    obtain ⟨B, m, d, h1, h2⟩ := hc j hj
    exact ⟨B, m, d, cell_below hb h1, h2.below hb⟩⟩
theorem weightsAll_mem {H : Type} {P : Program} {e : TypeId} : ∀ {ds : List (DataW H)} {j : Nat} {d : DataW H}, ds[j]? = some d → ∀ n ∈ d.weights P e, n ∈ DataW.weightsAll P e ds
  | d0 :: ds, 0, d, hd, n, hn => by
    simp only [List.getElem?_cons_zero, Option.some.injEq] at hd
    subst hd
    simp only [DataW.weightsAll, List.mem_append]
    exact Or.inl hn
  | d0 :: ds, j + 1, d, hd, n, hn => by
    simp only [List.getElem?_cons_succ] at hd
    simp only [DataW.weightsAll, List.mem_append]
    exact Or.inr (weightsAll_mem hd n hn)
  | [], _, _, hd, _, _ => by simp at hd
theorem bs_of_fuel {H : Type} {enc : TypeId × Value → H} {W : World} {base fuel : Nat} {spare : Nat → Bool} {held : Bool} {v : Value} {x : DataW H × List MemPlace}
    (h : DataW.trod enc Try.prog W base spare held fuel 22 [v] = some x) (hw : ∀ q ∈ x.1.weights Try.prog 22, q ≤ reachBytes) : ∃ B m d xs, v = .slice B m d ∧ Bs W B m d xs := by
  have h' := h
  rcases open_ints Try.underlying22 Try.underlying5 (by kernel_rfl) h with ⟨hcs, _⟩ | ⟨y, l, c, zs, hcs, _, hlc, hm, hz, hx, hcell, hwz⟩
  · simp only [List.cons.injEq, and_true] at hcs
    subst hcs
    exact ⟨none, 0, 0, [], rfl, Bs.nil _ _ _ (by omega)⟩
  · simp only [List.cons.injEq, and_true] at hcs
    subst hcs
    have hz' : l ≤ zs.length := by
      rw [hz]
      split
      · exact hlc
      · exact Nat.le_refl _
    have hb1 : Try.prog.bytesOf 5 = 1 := by kernel_rfl
    have hl : l ≤ 140737488355328 := by
      rw [hx] at hw
      have := hw (((lits (H := H) .u8 (zs.take l)).length + (lits (H := H) .u8 (zs.drop l)).length) * Try.prog.bytesOf 5) (by simp [DataW.weights, Try.underlying22])
      rw [hb1] at this
      simp [lits, reachBytes] at this
      omega
    obtain ⟨xs, hxs⟩ := bs_of_trod (enc := enc) ⟨fuel, by simpa [Value.cells] using h'⟩ hl
    exact ⟨_, _, _, xs, rfl, hxs⟩
theorem bss_of_trod {H : Type} {enc : TypeId × Value → H} {W : World} {base : Nat} {spare : Nat → Bool} {held : Bool} {a : Option Addr} {len cap : Nat} {d : DataW H} {ps : List MemPlace}
    (h : DataW.Trod enc Try.prog W base spare held 27 (.slice a len cap) d ps) (hw : ∀ q ∈ d.weights Try.prog 27, q ≤ reachBytes) : ∃ rows, Bss W a len cap rows := by
  obtain ⟨fuel, hf⟩ := h
  rcases Go.Deep.open_slice1 Try.underlying27 (by kernel_rfl) hf with ⟨hcs, _⟩ | ⟨x, l, c, m, n, V, D, Pl, hcs, _, hlc, hm, hmm, hx, he⟩
  · simp [Value.cells] at hcs
    obtain ⟨rfl, rfl, rfl⟩ := hcs
    exact ⟨[], rfl, Nat.le_refl _, by omega, by omega, fun h => absurd h (by omega)⟩
  · simp [Value.cells] at hcs
    obtain ⟨rfl, rfl, rfl⟩ := hcs
    simp only [Prod.mk.injEq] at hx
    obtain ⟨hd, _⟩ := hx
    subst hd
    have hle : len ≤ m := by
      rw [hmm]
      split
      · exact hlc
      · exact Nat.le_refl _
    have hb24 : 1 ≤ Try.prog.bytesOf 22 := of_decide_eq_true (by kernel_rfl)
    have hl : len ≤ 140737488355328 := by
      have := hw ((((List.range len).map D).length + ((List.range (m - len)).map fun j => D (len + j)).length) * Try.prog.bytesOf 22) (by simp [DataW.weights, Try.underlying27])
      have h2 := Nat.le_trans (Nat.le_mul_of_pos_right _ hb24) this
      simp [reachBytes] at h2
      omega
    have each : ∀ j, j < len → ∃ y : Option Addr × Nat × Nat × List UInt8, V j = .slice y.1 y.2.1 y.2.2.1 ∧ Bs W y.1 y.2.1 y.2.2.1 y.2.2.2 := by
      intro j hj
      obtain ⟨B, k, e, xs, h1, h2⟩ := bs_of_fuel (he j (by omega)).2 (fun q hq => hw q (by
        simp only [DataW.weights, Try.underlying27, List.mem_cons, List.mem_append]
        refine .inr (.inl (weightsAll_mem (j := j) (d := D j) ?_ q hq))
        simp [hj]))
      exact ⟨(B, k, e, xs), h1, h2⟩
    obtain ⟨y, hy⟩ := Go.Deep.choose_lt each
    refine ⟨(List.range len).map fun j => (y j).2.2.2, by simp, hlc, by simpa [maxLen] using hm, hl, fun _ => ⟨x, rfl, fun j hj => ⟨(y j).1, (y j).2.1, (y j).2.2.1, ?_, ?_⟩⟩⟩
    · rw [(he j (by omega)).1, (hy j hj).1]
    · have := (hy j hj).2
      simpa [List.getD_eq_getElem?_getD, hj] using this

end Go.Proofs.Ytaoaenjhclicfaa
