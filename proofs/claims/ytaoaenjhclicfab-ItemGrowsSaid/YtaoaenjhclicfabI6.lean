/- The walks of the reference's Room and Same, and of few. -/
import Derived.Test.YtaoaenjhclicfabI5
set_option linter.unusedVariables false
set_option linter.unusedSimpArgs false
namespace Go.Proofs.Ytaoaenjhclicfab
open Go.RowKit

theorem below_eq {w w1 : World} {m : Nat} (h : w1 = w.drewN m) : Below w.heap.size w w1 := by
  rw [h]
  exact below_drawn (Below.refl _ _) m
theorem I0cells (w : World) (a b c d : Value) (T : TypeId) : (w.alloc (.cells #[a, b, c, d] T)).cell? ⟨w.heap.size, 0, none⟩ = some a ∧ (w.alloc (.cells #[a, b, c, d] T)).cell? ⟨w.heap.size, 1, none⟩ = some b ∧ (w.alloc (.cells #[a, b, c, d] T)).cell? ⟨w.heap.size, 2, none⟩ = some c ∧ (w.alloc (.cells #[a, b, c, d] T)).cell? ⟨w.heap.size, 3, none⟩ = some d :=
  (IRow.mk0 (Below.refl _ _)).cells
/-- Two boxed items, some steps on. -/
structure I2Row (w : World) (a b c d a' b' c' d' : Value) (T : TypeId) (W : World) : Prop where
  one : IRow w a b c d T W
  two : W.heap[w.heap.size + 1]? = some (.cells #[a', b', c', d'] T)
theorem I2Row.mk0 (w : World) (a b c d a' b' c' d' : Value) (T : TypeId) : I2Row w a b c d a' b' c' d' T ((w.alloc (.cells #[a, b, c, d] T)).alloc (.cells #[a', b', c', d'] T)) :=
  ⟨IRow.mk0 ((Below.refl _ _).alloc (Nat.le_refl _) _), by have := heap_alloc_new (w.alloc (.cells #[a, b, c, d] T)) (.cells #[a', b', c', d'] T); simpa using this⟩
theorem I2Row.step {w W W1 : World} {a b c d a' b' c' d' : Value} {T : TypeId} (h : I2Row w a b c d a' b' c' d' T W) (hB : Below W.heap.size W W1) : I2Row w a b c d a' b' c' d' T W1 := ⟨h.one.step hB, row_below h.two hB⟩
theorem I2Row.cells {w W : World} {a b c d a' b' c' d' : Value} {T : TypeId} (h : I2Row w a b c d a' b' c' d' T W) : W.cell? ⟨w.heap.size + 1, 0, none⟩ = some a' ∧ W.cell? ⟨w.heap.size + 1, 1, none⟩ = some b' ∧ W.cell? ⟨w.heap.size + 1, 2, none⟩ = some c' ∧ W.cell? ⟨w.heap.size + 1, 3, none⟩ = some d' := item_cells2 h.two
def fewB (nk nv : Nat) : Bool := decide (nk ≤ 100 ∧ nv ≤ 2000)
set_option maxHeartbeats 1000000 in
set_option maxRecDepth 100000 in
theorem few_any (Ak : Option Addr) (nk ck : Nat) (Av : Option Addr) (nv cv : Nat) (s r : Int) (w : World) :
    Calls Try.prog 15 #[.agg #[.slice Ak nk ck, .slice Av nv cv, .int .i64 s, .int .i64 r]] w fun e w' => e = .returned (.bool (fewB nk nv)) ∧ Below w.heap.size w w' := by
  by_cases h1 : nk ≤ 100
  · have f1 : decide ((nk : Int) ≤ 100) = true := dI_t (by omega)
    have HV := Aside0.mk (show fewB nk nv = decide ((nv : Int) ≤ 2000) by unfold fewB; apply decide_eq_decide.2; omega)
    clear h1
    go_enter Try.func15, Try.ntmps15
    go_wp2
    go_ret
    exact ⟨ret_bool (by rw [HV.out]; first | done | rfl | (rw [Bool.eq_iff_iff]; simp; omega)), (Below.refl _ _).alloc (Nat.le_refl _) _⟩
  · have f1 : decide ((nk : Int) ≤ 100) = false := dI_f (by omega)
    have HV := Aside0.mk (show fewB nk nv = false by unfold fewB; exact decide_eq_false (by omega))
    clear h1
    go_enter Try.func15, Try.ntmps15
    go_wp2
    go_ret
    exact ⟨ret_bool HV.out.symm, (Below.refl _ _).alloc (Nat.le_refl _) _⟩

end Go.Proofs.Ytaoaenjhclicfab
