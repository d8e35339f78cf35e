/- The walks of item.Of and item.Same. -/
import Derived.Test.YtaoaenjhclicfabI3
import Derived.Test.YtaoaenjhclicfabC1
set_option linter.unusedVariables false
set_option linter.unusedSimpArgs false
namespace Go.Proofs.Ytaoaenjhclicfab
open Go.RowKit

theorem Ow.kept' {w w1 : World} {base n c : Nat} {A : Option Addr} {xs : List UInt8} (h : Ow w base A n c xs) (hb : ∀ g, base ≤ g → g < w.heap.size → w1.heap[g]? = w.heap[g]?) : Ow w1 base A n c xs := by
  refine ⟨⟨h.row.1, ?_⟩, h.lim⟩
  rcases h.row.2 with hn | ⟨g, cap, cur, hv, hg, hh, rest⟩
  · exact .inl hn
  · exact .inr ⟨g, cap, cur, hv, hg, by rw [hb g hg (Array.getElem?_eq_some_iff.1 hh).1]; exact hh, rest⟩
theorem set4 {w : World} {g k i0 i1 i2 i3 : Nat} {a b c d : Value} (h : g ≠ k) : ((((w.setCell ⟨k, i0, none⟩ a).setCell ⟨k, i1, none⟩ b).setCell ⟨k, i2, none⟩ c).setCell ⟨k, i3, none⟩ d).heap[g]? = w.heap[g]? := by
  rw [Below.heap_setCell _ _ _ _ h, Below.heap_setCell _ _ _ _ h, Below.heap_setCell _ _ _ _ h, Below.heap_setCell _ _ _ _ h]
set_option maxHeartbeats 1000000 in
set_option maxRecDepth 100000 in
theorem iof_any (Ak : Option Addr) (nk ck : Nat) (xs : List UInt8) (Av : Option Addr) (nv cv : Nat) (ys : List UInt8) (w : World) (hb : Bs w Ak nk ck xs) (hb' : Bs w Av nv cv ys) :
    Calls Try.prog 81 #[.slice Ak nk ck, .slice Av nv cv] w fun e w' => ∃ A1 c1 A2 c2, e = .returned (.agg #[.slice A1 nk c1, .slice A2 nv c2, .int .i64 0, .int .i64 0]) ∧ Ow w' w.heap.size A1 nk c1 xs ∧ Ow w' w.heap.size A2 nv c2 ys ∧ Below w.heap.size w w' := by
  have HB := Aside0.mk (And.intro hb hb')
  clear hb hb'
  go_enter Try.func81, Try.ntmps81
  go_wp2_with (first | (go_at_call 97; first | (with_reducible refine (clone8_any Ak nk ck xs _ (HB.out.1.alloc _)).mono ?_; rintro e w1 ⟨A1, c1, rfl, hO1, hB1⟩; (have HR1 := Aside0.mk (And.intro hO1 (And.intro (IRow.mk0 hB1) hB1))); clear hO1 hB1) | (with_reducible refine (clone8_any Av nv cv ys _ ((HB.out.2.alloc _).below HR1.out.2.2)).mono ?_; rintro e w2 ⟨A2, c2, rfl, hO2, hB2⟩; (have HR2 := Aside0.mk (And.intro (HR1.out.1.below hB2) (And.intro hO2 (HR1.out.2.1.step hB2)))); (have t0 := HR2.out.2.2.thaw); obtain ⟨k0, k1, k2, k3⟩ := HR2.out.2.2.cells; clear hO2 hB2)))
  refine bodyPost_ret (v := .agg #[.slice A1 nk c1, .slice A2 nv c2, .int .i64 0, .int .i64 0]) (by simp [results, Try.results81, go_sem, k0, k1, k2, k3]) rfl ⟨A1, c1, A2, c2, rfl, ?_, ?_, ?_⟩
  · exact (HR2.out.1.kept' fun g hg _ => set4 (by simp at hg; omega)).mono (by simp)
  · exact (HR2.out.2.1.kept' fun g hg _ => set4 (by have := HR1.out.2.2.size; simp at this; omega)).mono (HR1.out.2.1.bel.size)
  · exact (((HR2.out.2.2.bel.setCell (p := ⟨w.heap.size, 0, none⟩) (Nat.le_refl _) _).setCell (p := ⟨w.heap.size, 1, none⟩) (Nat.le_refl _) _).setCell (p := ⟨w.heap.size, 2, none⟩) (Nat.le_refl _) _).setCell (p := ⟨w.heap.size, 3, none⟩) (Nat.le_refl _) _

def sameB (xs ys xs' ys' : List UInt8) (s r s' r' : Int) : Bool := decide (xs = xs' ∧ ys = ys' ∧ s = s' ∧ r = r')
theorem seq_t {xs ys : List UInt8} (h : xs = ys) : (xs == ys) = true := beq_iff_eq.mpr h
theorem seq_f {xs ys : List UInt8} (h : ¬ xs = ys) : (xs == ys) = false := beq_eq_false_iff_ne.mpr h
set_option maxHeartbeats 1000000 in
set_option maxRecDepth 100000 in
theorem isame_any (Ak : Option Addr) (nk ck : Nat) (xs : List UInt8) (Av : Option Addr) (nv cv : Nat) (ys : List UInt8) (s r : Int) (Bk : Option Addr) (mk dk : Nat) (xs' : List UInt8) (Bv : Option Addr) (mv dv : Nat) (ys' : List UInt8) (s' r' : Int) (w : World)
    (hb : Bs w Ak nk ck xs ∧ Bs w Av nv cv ys ∧ Bs w Bk mk dk xs' ∧ Bs w Bv mv dv ys') :
    Calls Try.prog 86 #[.agg #[.slice Ak nk ck, .slice Av nv cv, .int .i64 s, .int .i64 r], .agg #[.slice Bk mk dk, .slice Bv mv dv, .int .i64 s', .int .i64 r']] w fun e w' => e = .returned (.bool (sameB xs ys xs' ys' s r s' r')) ∧ Below w.heap.size w w' := by
  have HB := Aside0.mk hb
  have HW := Aside0.mk (((Below.refl w.heap.size w).alloc (Nat.le_refl _) (.cells #[.slice Ak nk ck, .slice Av nv cv, .int .i64 s, .int .i64 r] 27)).alloc (by simp) (.cells #[.slice Bk mk dk, .slice Bv mv dv, .int .i64 s', .int .i64 r'] 27))
  clear hb
  by_cases h1 : xs = xs'
  · have e1 := seq_t h1
    by_cases h2 : ys = ys'
    · have e2 := seq_t h2
      have h12 := Aside0.mk (And.intro h1 h2)
      clear h1 h2
      by_cases h3 : s = s'
      · have e3 : (s == s') = true := beq_t h3
        have h3' := Aside0.mk h3
        clear h3
        have HV := Aside0.mk (show sameB xs ys xs' ys' s r s' r' = decide (r = r') from by unfold sameB; apply decide_eq_decide.2; exact ⟨fun h => h.2.2.2, fun h => ⟨h12.out.1, h12.out.2, h3'.out, h⟩⟩)
        go_enter Try.func86, Try.ntmps86
        go_wp2_with (first | (go_at_call 33; first | (with_reducible refine (equal8_any Ak nk ck xs Bk mk dk xs' _ (HB.out.1.below HW.out) (HB.out.2.2.1.below HW.out)).mono ?_; rintro e w1 ⟨rfl, rfl⟩; rw [e1]) | (with_reducible refine (equal8_any Av nv cv ys Bv mv dv ys' _ (HB.out.2.1.below HW.out) (HB.out.2.2.2.below HW.out)).mono ?_; rintro e w1 ⟨rfl, rfl⟩; rw [e2])))
        go_ret
        exact ⟨ret_bool (by rw [HV.out]; first | done | rfl | (rw [Bool.eq_iff_iff]; simp)), HW.out⟩
      · have e3 : (s == s') = false := beq_f h3
        have HV := Aside0.mk (show sameB xs ys xs' ys' s r s' r' = false from by unfold sameB; exact decide_eq_false (fun h => h3 h.2.2.1))
        go_enter Try.func86, Try.ntmps86
        go_wp2_with (first | (go_at_call 33; first | (with_reducible refine (equal8_any Ak nk ck xs Bk mk dk xs' _ (HB.out.1.below HW.out) (HB.out.2.2.1.below HW.out)).mono ?_; rintro e w1 ⟨rfl, rfl⟩; rw [e1]) | (with_reducible refine (equal8_any Av nv cv ys Bv mv dv ys' _ (HB.out.2.1.below HW.out) (HB.out.2.2.2.below HW.out)).mono ?_; rintro e w1 ⟨rfl, rfl⟩; rw [e2])))
        go_ret
        exact ⟨ret_bool (by rw [HV.out]; first | done | rfl | (rw [Bool.eq_iff_iff]; simp)), HW.out⟩
    · have e2 := seq_f h2
      have HV := Aside0.mk (show sameB xs ys xs' ys' s r s' r' = false from by unfold sameB; exact decide_eq_false (fun h => h2 h.2.1))
      go_enter Try.func86, Try.ntmps86
      go_wp2_with (first | (go_at_call 33; first | (with_reducible refine (equal8_any Ak nk ck xs Bk mk dk xs' _ (HB.out.1.below HW.out) (HB.out.2.2.1.below HW.out)).mono ?_; rintro e w1 ⟨rfl, rfl⟩; rw [e1]) | (with_reducible refine (equal8_any Av nv cv ys Bv mv dv ys' _ (HB.out.2.1.below HW.out) (HB.out.2.2.2.below HW.out)).mono ?_; rintro e w1 ⟨rfl, rfl⟩; rw [e2])))
      go_ret
      exact ⟨ret_bool (by rw [HV.out]; first | done | rfl | (rw [Bool.eq_iff_iff]; simp)), HW.out⟩
  · have e1 := seq_f h1
    have HV := Aside0.mk (show sameB xs ys xs' ys' s r s' r' = false from by unfold sameB; exact decide_eq_false (fun h => h1 h.1))
    go_enter Try.func86, Try.ntmps86
    go_wp2_with (first | (go_at_call 33; first | (with_reducible refine (equal8_any Ak nk ck xs Bk mk dk xs' _ (HB.out.1.below HW.out) (HB.out.2.2.1.below HW.out)).mono ?_; rintro e w1 ⟨rfl, rfl⟩; rw [e1]) | (with_reducible refine (equal8_any Av nv cv ys Bv mv dv ys' _ (HB.out.2.1.below HW.out) (HB.out.2.2.2.below HW.out)).mono ?_; rintro e w1 ⟨rfl, rfl⟩; rw [e2])))
    go_ret
    exact ⟨ret_bool (by rw [HV.out]; first | done | rfl | (rw [Bool.eq_iff_iff]; simp)), HW.out⟩

end Go.Proofs.Ytaoaenjhclicfab
