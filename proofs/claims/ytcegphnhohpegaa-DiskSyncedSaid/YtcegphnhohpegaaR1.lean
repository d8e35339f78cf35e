/- A slice of slices of bytes: read, and opened out of an argument's reading. -/
import Derived.Test.YtcegphnhohpegaaR0
import Derived.Deep.Slices
set_option linter.unusedVariables false
set_option linter.unusedSimpArgs false
namespace Go.Proofs.Ytcegphnhohpegaa
open Go.ChangeShapes Go.WideShapes Go.ChangeAt Go.RowKit

structure Bss (w : World) (A : Option Addr) (n c : Nat) (rows : List (List UInt8)) : Prop where
  len : rows.length = n
  le : n ≤ c
  cap : c ≤ 9223372036854775807
  lim : n ≤ 140737488355328
  cells : 0 < n → ∃ ad, A = some ad ∧ ∀ j, j < n → ∃ B m d, w.cell? (ad.add j) = some (.slice B m d) ∧ Bs w B m d (rows.getD j [])
theorem Bss.atN {w : World} {A : Option Addr} {n c : Nat} {rows : List (List UInt8)} (h : Bss w A n c rows) (i : Nat) (h1 : i < n) :
    ∃ ad, A = some ad ∧ ∃ B m d, w.cell? (ad.add i) = some (.slice B m d) ∧ Bs w B m d (rows.getD i []) := by
  obtain ⟨ad, e, hc⟩ := h.cells (by omega)
  exact ⟨ad, e, hc _ (by omega)⟩
theorem Bss.below {w w1 : World} {A : Option Addr} {n c : Nat} {rows : List (List UInt8)} (h : Bss w A n c rows) (hb : Below w.heap.size w w1) : Bss w1 A n c rows :=
  ⟨h.len, h.le, h.cap, h.lim, fun hn => by
    obtain ⟨ad, e, hc⟩ := h.cells hn
    refine ⟨ad, e, fun j hj => ?_⟩
    obtain ⟨B, m, d, h1, h2⟩ := hc j hj
    exact ⟨B, m, d, cell_below hb h1, h2.below hb⟩⟩
theorem weightsAll_mem {H : Type} {P : Program} {e : TypeId} : ∀ {ds : List (DataW H)} {j : Nat} {d : DataW H}, ds[j]? = some d → ∀ n ∈ d.weights P e, n ∈ DataW.weightsAll P e ds
  | d0 :: ds, 0, d, hd, n, hn => by
    simp only [List.getElem?_cons_zero, Option.some.injEq] at hd
    subst hd
    simp only [DataW.weightsAll, List.mem_append]
    exact Or.inl hn
  | d0 :: ds, j + 1, d, hd, n, hn => by
    simp only [List.getElem?_cons_succ] at hd
    simp only [DataW.weightsAll, List.mem_append]
    exact Or.inr (weightsAll_mem hd n hn)
  | [], _, _, hd, _, _ => by simp at hd
theorem bs_of_fuel {H : Type} {enc : TypeId × Value → H} {W : World} {base fuel : Nat} {spare : Nat → Bool} {held : Bool} {v : Value} {x : DataW H × List MemPlace}
    (h : DataW.trod enc Try.prog W base spare held fuel 22 [v] = some x) (hw : ∀ q ∈ x.1.weights Try.prog 22, q ≤ reachBytes) : ∃ B m d xs, v = .slice B m d ∧ Bs W B m d xs := by
  have h' := h
  rcases open_ints Try.underlying22 Try.underlying5 (by kernel_rfl) h with ⟨hcs, _⟩ | ⟨y, l, c, zs, hcs, _, hlc, hm, hz, hx, hcell, hwz⟩
  · simp only [List.cons.injEq, and_true] at hcs
    subst hcs
    exact ⟨none, 0, 0, [], rfl, Bs.nil _ _ _ (by omega)⟩
  · simp only [List.cons.injEq, and_true] at hcs
    subst hcs
    have hz' : l ≤ zs.length := by
      rw [hz]
      split
      · exact hlc
      · exact Nat.le_refl _
    have hb1 : Try.prog.bytesOf 5 = 1 := by kernel_rfl
    have hl : l ≤ 140737488355328 := by
      rw [hx] at hw
      have := hw (((lits (H := H) .u8 (zs.take l)).length + (lits (H := H) .u8 (zs.drop l)).length) * Try.prog.bytesOf 5) (by simp [DataW.weights, Try.underlying22])
      rw [hb1] at this
      simp [lits, reachBytes] at this
      omega
    obtain ⟨xs, hxs⟩ := bs_of_trod (enc := enc) ⟨fuel, by simpa [Value.cells] using h'⟩ hl
    exact ⟨_, _, _, xs, rfl, hxs⟩
end Go.Proofs.Ytcegphnhohpegaa
