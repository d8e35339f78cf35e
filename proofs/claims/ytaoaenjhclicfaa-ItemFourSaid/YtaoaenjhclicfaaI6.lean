/- The walks of the reference's Room and Same, and of few. -/
import Derived.Test.YtaoaenjhclicfaaI5
set_option linter.unusedVariables false
set_option linter.unusedSimpArgs false
namespace Go.Proofs.Ytaoaenjhclicfaa
open Go.RowKit

theorem below_eq {w w1 : World} {m : Nat} (h : w1 = w.drewN m) : Below w.heap.size w w1 := by
  rw [h]
  exact below_drawn (Below.refl _ _) m
theorem I0cells (w : World) (a b c d : Value) (T : TypeId) : (w.alloc (.cells #[a, b, c, d] T)).cell? ⟨w.heap.size, 0, none⟩ = some a ∧ (w.alloc (.cells #[a, b, c, d] T)).cell? ⟨w.heap.size, 1, none⟩ = some b ∧ (w.alloc (.cells #[a, b, c, d] T)).cell? ⟨w.heap.size, 2, none⟩ = some c ∧ (w.alloc (.cells #[a, b, c, d] T)).cell? ⟨w.heap.size, 3, none⟩ = some d :=
  (IRow.mk0 (Below.refl _ _)).cells
/-- Two boxed items, some steps on. -/
structure I2Row (w : World) (a b c d a' b' c' d' : Value) (T : TypeId) (W : World) : Prop where
  one : IRow w a b c d T W
  two : W.heap[w.heap.size + 1]? = some (.cells #[a', b', c', d'] T)
theorem I2Row.mk0 (w : World) (a b c d a' b' c' d' : Value) (T : TypeId) : I2Row w a b c d a' b' c' d' T ((w.alloc (.cells #[a, b, c, d] T)).alloc (.cells #[a', b', c', d'] T)) :=
  ⟨IRow.mk0 ((Below.refl _ _).alloc (Nat.le_refl _) _), by have := heap_alloc_new (w.alloc (.cells #[a, b, c, d] T)) (.cells #[a', b', c', d'] T); simpa using this⟩
theorem I2Row.step {w W W1 : World} {a b c d a' b' c' d' : Value} {T : TypeId} (h : I2Row w a b c d a' b' c' d' T W) (hB : Below W.heap.size W W1) : I2Row w a b c d a' b' c' d' T W1 := ⟨h.one.step hB, row_below h.two hB⟩
theorem I2Row.cells {w W : World} {a b c d a' b' c' d' : Value} {T : TypeId} (h : I2Row w a b c d a' b' c' d' T W) : W.cell? ⟨w.heap.size + 1, 0, none⟩ = some a' ∧ W.cell? ⟨w.heap.size + 1, 1, none⟩ = some b' ∧ W.cell? ⟨w.heap.size + 1, 2, none⟩ = some c' ∧ W.cell? ⟨w.heap.size + 1, 3, none⟩ = some d' := item_cells2 h.two
set_option maxHeartbeats 1000000 in
set_option maxRecDepth 100000 in
theorem rroom_any (g : Int) (Ak : Option Addr) (nk ck : Nat) (Av : Option Addr) (nv cv : Nat) (s r : Int) (w : World) (hk : nk ≤ 140737488355328) (hv : nv ≤ 140737488355328) :
    Calls Try.prog 46 #[.int .i64 g, .agg #[.slice Ak nk ck, .slice Av nv cv, .int .i64 s, .int .i64 r]] w fun e w' => e = .returned (.int .i64 (roomI g nk nv r)) ∧ Below w.heap.size w w' := by
  obtain ⟨r0, r1⟩ := iw_range g
  by_cases h1 : g < 1
  · have f1 := dI_t h1
    have HV := Aside0.mk (show roomI g nk nv r = 0 from by unfold roomI; rw [if_neg (by simp [gen_lo h1])])
    go_enter Try.func46, Try.ntmps46
    go_wp2
    go_ret
    exact ⟨ret_int HV.out.symm, (Below.refl _ _).alloc (Nat.le_refl _) _⟩
  have f1 := dI_f h1
  by_cases h2 : 3 < g
  · have f2 := dI_t h2
    have HV := Aside0.mk (show roomI g nk nv r = 0 from by unfold roomI; rw [if_neg (by simp [gen_hi h2])])
    go_enter Try.func46, Try.ntmps46
    go_wp2
    go_ret
    exact ⟨ret_int HV.out.symm, (Below.refl _ _).alloc (Nat.le_refl _) _⟩
  have f2 := dI_f h2
  have hg := Aside0.mk (gen_in h1 h2)
  have f0 := I0cells w (.slice Ak nk ck) (.slice Av nv cv) (.int .i64 s) (.int .i64 r) 38
  cases hf : farB nv r with
  | true =>
    have HV := Aside0.mk (show roomI g nk nv r = 4 + (nk : Int) + iwI g from by unfold roomI; rw [if_pos hg.out, if_pos hf])
    go_enter Try.func46, Try.ntmps46
    go_wp2_with (first | (go_at_call 42; refine (rfar_any Ak nk ck Av nv cv s r _).mono ?_; rintro e w1 ⟨rfl, hB1⟩; rw [hf]; (have I1 := Aside0.mk (IRow.mk0 hB1)); (obtain ⟨c0, c1, c2, c3⟩ := I1.out.cells); clear hB1) | (go_at_call 33; refine (rIdWidth_any _ _).mono ?_; rintro e w2 ⟨rfl, rfl⟩))
    go_ret
    exact ⟨ret_int (by rw [HV.out]; omega), I1.out.bel⟩
  | false =>
    have HV := Aside0.mk (show roomI g nk nv r = 4 + (nk : Int) + (nv : Int) from by unfold roomI; rw [if_pos hg.out, if_neg (by simp [hf])])
    go_enter Try.func46, Try.ntmps46
    go_wp2_with (first | (go_at_call 42; refine (rfar_any Ak nk ck Av nv cv s r _).mono ?_; rintro e w1 ⟨rfl, hB1⟩; rw [hf]; (have I1 := Aside0.mk (IRow.mk0 hB1)); (obtain ⟨c0, c1, c2, c3⟩ := I1.out.cells); clear hB1) | (go_at_call 33; refine (rIdWidth_any _ _).mono ?_; rintro e w2 ⟨rfl, rfl⟩))
    go_ret
    exact ⟨ret_int (by rw [HV.out]; omega), I1.out.bel⟩
set_option maxHeartbeats 2000000 in
set_option maxRecDepth 100000 in
theorem rsame_any (Ak : Option Addr) (nk ck : Nat) (xs : List UInt8) (Av : Option Addr) (nv cv : Nat) (ys : List UInt8) (s r : Int) (Bk : Option Addr) (mk dk : Nat) (xs' : List UInt8) (Bv : Option Addr) (mv dv : Nat) (ys' : List UInt8) (s' r' : Int) (w : World)
    (hb : Bs w Ak nk ck xs ∧ Bs w Av nv cv ys ∧ Bs w Bk mk dk xs' ∧ Bs w Bv mv dv ys') :
    Calls Try.prog 53 #[.agg #[.slice Ak nk ck, .slice Av nv cv, .int .i64 s, .int .i64 r], .agg #[.slice Bk mk dk, .slice Bv mv dv, .int .i64 s', .int .i64 r']] w fun e w' => e = .returned (.bool (sameB xs ys xs' ys' s r s' r')) ∧ Below w.heap.size w w' := by
  have HB := Aside0.mk hb
  have HW := Aside0.mk (I2Row.mk0 w (.slice Ak nk ck) (.slice Av nv cv) (.int .i64 s) (.int .i64 r) (.slice Bk mk dk) (.slice Bv mv dv) (.int .i64 s') (.int .i64 r') 38)
  clear hb
  by_cases h1 : xs = xs'
  · have g1 : (Lib.compareBytes xs xs' == 0) = true := beq_t ((cmp_eq0 _ _).2 h1)
    have h1' := Aside0.mk h1
    clear h1
    by_cases h2 : ys = ys'
    · have g2 : (Lib.compareBytes ys ys' == 0) = true := beq_t ((cmp_eq0 _ _).2 h2)
      have h12 := Aside0.mk (And.intro h1'.out h2)
      clear h2
      by_cases h3 : s = s'
      · have g3 : (s == s') = true := beq_t h3
        have h3' := Aside0.mk h3
        clear h3
        have HV := Aside0.mk (show sameB xs ys xs' ys' s r s' r' = decide (r = r') from by unfold sameB; apply decide_eq_decide.2; exact ⟨fun h => h.2.2.2, fun h => ⟨h12.out.1, h12.out.2, h3'.out, h⟩⟩)
        go_enter Try.func53, Try.ntmps53
        go_wp2_with (first | (go_at_call 51; first | ((with_reducible refine (rcompare_any Ak nk ck xs Bk mk dk xs' _ (HB.out.1.below HW.out.one.bel) (HB.out.2.2.1.below HW.out.one.bel)).mono ?_); rintro e w1 ⟨rfl, m1, hm1⟩; (have H1 := Aside0.mk (HW.out.step (below_eq hm1))); clear hm1; obtain ⟨c0, c1, c2, c3⟩ := H1.out.one.cells; obtain ⟨d0, d1, d2, d3⟩ := H1.out.cells) | ((with_reducible refine (rcompare_any Av nv cv ys Bv mv dv ys' _ (HB.out.2.1.below H1.out.one.bel) (HB.out.2.2.2.below H1.out.one.bel)).mono ?_); rintro e w2 ⟨rfl, m2, hm2⟩; (have H2 := Aside0.mk (H1.out.step (below_eq hm2))); clear hm2; obtain ⟨e0, e1, e2, e3⟩ := H2.out.one.cells; obtain ⟨f0, f1, f2, f3⟩ := H2.out.cells)))
        go_ret
        exact ⟨ret_bool (by rw [HV.out]; first | done | rfl | (rw [Bool.eq_iff_iff]; simp)), H2.out.one.bel⟩
      · have g3 : (s == s') = false := beq_f h3
        have HV := Aside0.mk (show sameB xs ys xs' ys' s r s' r' = false from by unfold sameB; exact decide_eq_false (fun h => h3 h.2.2.1))
        go_enter Try.func53, Try.ntmps53
        go_wp2_with (first | (go_at_call 51; first | ((with_reducible refine (rcompare_any Ak nk ck xs Bk mk dk xs' _ (HB.out.1.below HW.out.one.bel) (HB.out.2.2.1.below HW.out.one.bel)).mono ?_); rintro e w1 ⟨rfl, m1, hm1⟩; (have H1 := Aside0.mk (HW.out.step (below_eq hm1))); clear hm1; obtain ⟨c0, c1, c2, c3⟩ := H1.out.one.cells; obtain ⟨d0, d1, d2, d3⟩ := H1.out.cells) | ((with_reducible refine (rcompare_any Av nv cv ys Bv mv dv ys' _ (HB.out.2.1.below H1.out.one.bel) (HB.out.2.2.2.below H1.out.one.bel)).mono ?_); rintro e w2 ⟨rfl, m2, hm2⟩; (have H2 := Aside0.mk (H1.out.step (below_eq hm2))); clear hm2; obtain ⟨e0, e1, e2, e3⟩ := H2.out.one.cells; obtain ⟨f0, f1, f2, f3⟩ := H2.out.cells)))
        go_ret
        exact ⟨ret_bool (by rw [HV.out]; first | done | rfl | (rw [Bool.eq_iff_iff]; simp)), H2.out.one.bel⟩
    · have g2 : (Lib.compareBytes ys ys' == 0) = false := beq_f (fun h => h2 ((cmp_eq0 _ _).1 h))
      have HV := Aside0.mk (show sameB xs ys xs' ys' s r s' r' = false from by unfold sameB; exact decide_eq_false (fun h => h2 h.2.1))
      go_enter Try.func53, Try.ntmps53
      go_wp2_with (first | (go_at_call 51; first | ((with_reducible refine (rcompare_any Ak nk ck xs Bk mk dk xs' _ (HB.out.1.below HW.out.one.bel) (HB.out.2.2.1.below HW.out.one.bel)).mono ?_); rintro e w1 ⟨rfl, m1, hm1⟩; (have H1 := Aside0.mk (HW.out.step (below_eq hm1))); clear hm1; obtain ⟨c0, c1, c2, c3⟩ := H1.out.one.cells; obtain ⟨d0, d1, d2, d3⟩ := H1.out.cells) | ((with_reducible refine (rcompare_any Av nv cv ys Bv mv dv ys' _ (HB.out.2.1.below H1.out.one.bel) (HB.out.2.2.2.below H1.out.one.bel)).mono ?_); rintro e w2 ⟨rfl, m2, hm2⟩; (have H2 := Aside0.mk (H1.out.step (below_eq hm2))); clear hm2; obtain ⟨e0, e1, e2, e3⟩ := H2.out.one.cells; obtain ⟨f0, f1, f2, f3⟩ := H2.out.cells)))
      go_ret
      exact ⟨ret_bool (by rw [HV.out]; first | done | rfl | (rw [Bool.eq_iff_iff]; simp)), H2.out.one.bel⟩
  · have g1 : (Lib.compareBytes xs xs' == 0) = false := beq_f (fun h => h1 ((cmp_eq0 _ _).1 h))
    have HV := Aside0.mk (show sameB xs ys xs' ys' s r s' r' = false from by unfold sameB; exact decide_eq_false (fun h => h1 h.1))
    go_enter Try.func53, Try.ntmps53
    go_wp2_with (first | (go_at_call 51; first | ((with_reducible refine (rcompare_any Ak nk ck xs Bk mk dk xs' _ (HB.out.1.below HW.out.one.bel) (HB.out.2.2.1.below HW.out.one.bel)).mono ?_); rintro e w1 ⟨rfl, m1, hm1⟩; (have H1 := Aside0.mk (HW.out.step (below_eq hm1))); clear hm1; obtain ⟨c0, c1, c2, c3⟩ := H1.out.one.cells; obtain ⟨d0, d1, d2, d3⟩ := H1.out.cells) | ((with_reducible refine (rcompare_any Av nv cv ys Bv mv dv ys' _ (HB.out.2.1.below H1.out.one.bel) (HB.out.2.2.2.below H1.out.one.bel)).mono ?_); rintro e w2 ⟨rfl, m2, hm2⟩; (have H2 := Aside0.mk (H1.out.step (below_eq hm2))); clear hm2; obtain ⟨e0, e1, e2, e3⟩ := H2.out.one.cells; obtain ⟨f0, f1, f2, f3⟩ := H2.out.cells)))
    go_ret
    exact ⟨ret_bool (by rw [HV.out]; first | done | rfl | (rw [Bool.eq_iff_iff]; simp)), H1.out.one.bel⟩
def fewB (nk nv : Nat) : Bool := decide (nk ≤ 100 ∧ nv ≤ 2000)
set_option maxHeartbeats 1000000 in
set_option maxRecDepth 100000 in
theorem few_any (Ak : Option Addr) (nk ck : Nat) (Av : Option Addr) (nv cv : Nat) (s r : Int) (w : World) :
    Calls Try.prog 38 #[.agg #[.slice Ak nk ck, .slice Av nv cv, .int .i64 s, .int .i64 r]] w fun e w' => e = .returned (.bool (fewB nk nv)) ∧ Below w.heap.size w w' := by
  by_cases h1 : nk ≤ 100
  · have f1 : decide ((nk : Int) ≤ 100) = true := dI_t (by omega)
    have HV := Aside0.mk (show fewB nk nv = decide ((nv : Int) ≤ 2000) by unfold fewB; apply decide_eq_decide.2; omega)
    clear h1
    go_enter Try.func38, Try.ntmps38
    go_wp2
    go_ret
    exact ⟨ret_bool (by rw [HV.out]; first | done | rfl | (rw [Bool.eq_iff_iff]; simp; omega)), (Below.refl _ _).alloc (Nat.le_refl _) _⟩
  · have f1 : decide ((nk : Int) ≤ 100) = false := dI_f (by omega)
    have HV := Aside0.mk (show fewB nk nv = false by unfold fewB; exact decide_eq_false (by omega))
    clear h1
    go_enter Try.func38, Try.ntmps38
    go_wp2
    go_ret
    exact ⟨ret_bool HV.out.symm, (Below.refl _ _).alloc (Nat.le_refl _) _⟩

end Go.Proofs.Ytaoaenjhclicfaa
