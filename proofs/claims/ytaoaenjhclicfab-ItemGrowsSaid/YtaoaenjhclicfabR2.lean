/- An item among the arguments, opened. -/
import Derived.Test.YtaoaenjhclicfabR1
import Derived.Lib.SmallJoins
set_option linter.unusedVariables false
set_option linter.unusedSimpArgs false
namespace Go.Proofs.Ytaoaenjhclicfab
open Go.ChangeShapes Go.WideShapes Go.ChangeAt Go.RowKit Go.Joins Go.Deep

set_option maxRecDepth 100000 in
theorem item_open {H : Type} {enc : TypeId × Value → H} {W : World} {base b0 : Nat} {spare : Nat → Bool} {held : Bool} {r : Reach} {v : Value} {d : DataW H} {ps : List MemPlace}
    (hv : Value.okWide Try.prog W r b0 24 v) (h : DataW.Trod enc Try.prog W base spare held 24 v d ps) (hw : ∀ q ∈ d.weights Try.prog 24, q ≤ reachBytes) :
    ∃ Ak nk ck xs Av nv cv ys s t, v = .agg #[.slice Ak nk ck, .slice Av nv cv, .int .i64 s, .int .i64 t] ∧ Bs W Ak nk ck xs ∧ Bs W Av nv cv ys ∧ (-9223372036854775808 ≤ s ∧ s ≤ 9223372036854775807) ∧ (-9223372036854775808 ≤ t ∧ t ≤ 9223372036854775807) := by
  obtain ⟨v0, v1, v2, v3, y0, y1, y2, y3, n, rfl, rfl, _, h0, h1, h2, h3⟩ := open_agg4 Try.underlying24 (by kernel_rfl) (by kernel_rfl) hv h
  have hw' : ∀ (j : Nat) (t : TypeId) (d : DataW H), [22, 22, 3, 3][j]? = some t → [y0.1, y1.1, y2.1, y3.1][j]? = some d → ∀ q ∈ d.weights Try.prog t, q ≤ reachBytes := by
    intro j t d ht hd q hq
    refine hw q ?_
    simp only [DataW.weights, Try.underlying24]
    exact DataW.weights_mem_each (j := j) ht hd q hq
  obtain ⟨Ak, nk, ck, xs, rfl, hb0⟩ := bs_of_fuel h0 (hw' 0 _ _ rfl rfl)
  obtain ⟨Av, nv, cv, ys, rfl, hb1⟩ := bs_of_fuel h1 (hw' 1 _ _ rfl rfl)
  obtain ⟨s, hs, _, ws⟩ := DataW.trod_int Try.underlying3 h2
  obtain ⟨t, ht, _, wt⟩ := DataW.trod_int Try.underlying3 h3
  simp only [List.cons.injEq, and_true] at hs ht
  subst hs
  subst ht
  exact ⟨Ak, nk, ck, xs, Av, nv, cv, ys, s, t, rfl, hb0, hb1, int_bounds ws, int_bounds wt⟩

end Go.Proofs.Ytaoaenjhclicfab
