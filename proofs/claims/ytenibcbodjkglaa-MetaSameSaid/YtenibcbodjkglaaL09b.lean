/- The walk of MetaSame. -/
import Derived.Test.YtenibcbodjkglaaL09a
set_option linter.unusedVariables false
set_option linter.unusedSimpArgs false
namespace Go.Proofs.Ytenibcbodjkglaa
open Go.RowKit

/-- Two metas in their boxes. -/
structure S2 (w : World) (u v : Array Value) (W : World) : Prop where
  bel : Below w.heap.size w W
  ra : W.heap[w.heap.size]? = some (.cells u 24)
  rb : W.heap[w.heap.size + 1]? = some (.cells v 24)
theorem S2.step {w W W1 : World} {u v : Array Value} (h : S2 w u v W) (hB : Below W.heap.size W W1) : S2 w u v W1 :=
  ⟨below_then h.bel h.bel.size hB, (hB.block _ (Array.getElem?_eq_some_iff.1 h.ra).1).trans h.ra, (hB.block _ (Array.getElem?_eq_some_iff.1 h.rb).1).trans h.rb⟩
theorem S2.start (w : World) (u v : Array Value) : S2 w u v ((w.alloc (.cells u 24)).alloc (.cells v 24)) :=
  ⟨((Below.refl _ w).alloc (Nat.le_refl _) _).alloc (by simp) _, (Below.heap_alloc _ _ _ (by simp)).trans (heap_alloc_new w _), by have := heap_alloc_new (w.alloc (.cells u 24)) (.cells v 24); simpa using this⟩
set_option maxHeartbeats 4000000 in
set_option maxRecDepth 100000 in
theorem metaSame_walk (ge ph tg tx rt pg li : Int) (A : Option Addr) (n c : Nat) (xs : List UInt8) (ge' ph' tg' tx' rt' pg' li' : Int) (A' : Option Addr) (n' c' : Nat) (ys : List UInt8) (w : World) (hx : Bs w A n c xs) (hy : Bs w A' n' c' ys) :
    Calls Try.prog 6 #[.agg #[.int .i64 ge, .int .i64 ph, .int .i64 tg, .int .i64 tx, .int .i64 rt, .int .i64 pg, .int .i64 li, .slice A n c], .agg #[.int .i64 ge', .int .i64 ph', .int .i64 tg', .int .i64 tx', .int .i64 rt', .int .i64 pg', .int .i64 li', .slice A' n' c']] w fun e w' => e = .returned (.bool true) ∧ Below w.heap.size w w' := by
  have HX := Aside0.mk hx
  have HY := Aside0.mk hy
  have hl1 := hx.lim
  have hl2 := hy.lim
  clear hx hy
  have HJ := Aside0.mk (S2.start w #[.int .i64 ge, .int .i64 ph, .int .i64 tg, .int .i64 tx, .int .i64 rt, .int .i64 pg, .int .i64 li, .slice A n c] #[.int .i64 ge', .int .i64 ph', .int .i64 tg', .int .i64 tx', .int .i64 rt', .int .i64 pg', .int .i64 li', .slice A' n' c'])
  go_enter Try.func6, Try.ntmps6
  go_upto_region 1 with fail
  obtain ⟨W0, hW0⟩ : ∃ X, (w.alloc (.cells #[.int .i64 ge, .int .i64 ph, .int .i64 tg, .int .i64 tx, .int .i64 rt, .int .i64 pg, .int .i64 li, .slice A n c] 24)).alloc (.cells #[.int .i64 ge', .int .i64 ph', .int .i64 tg', .int .i64 tx', .int .i64 rt', .int .i64 pg', .int .i64 li', .slice A' n' c'] 24) = X := ⟨_, rfl⟩
  rw [hW0] at HJ ⊢
  clear hW0
  (obtain ⟨x0, x1, x2, x3, x4, x5, x6, x7⟩ := row8_cells HJ.out.ra)
  (obtain ⟨y0, y1, y2, y3, y4, y5, y6, y7⟩ := row8_cells HJ.out.rb)
  by_cases g1 : 300 < n
  · have d1 : decide (300 < (n : Int)) = true := decide_eq_true (by omega)
    go_wp2_with (go_at_call 9; (with_reducible refine (alive09_any _).mono ?_); rintro e wa ⟨rfl, hB⟩; (replace HJ := Aside0.mk (HJ.out.step hB)); clear hB; (obtain ⟨x0, x1, x2, x3, x4, x5, x6, x7⟩ := row8_cells HJ.out.ra); (obtain ⟨y0, y1, y2, y3, y4, y5, y6, y7⟩ := row8_cells HJ.out.rb))
    go_ret
    exact ⟨rfl, HJ.out.bel⟩
  · have d1 : decide (300 < (n : Int)) = false := decide_eq_false (by omega)
    by_cases g2 : 300 < n'
    · have d2 : decide (300 < (n' : Int)) = true := decide_eq_true (by omega)
      go_wp2_with (go_at_call 9; (with_reducible refine (alive09_any _).mono ?_); rintro e wa ⟨rfl, hB⟩; (replace HJ := Aside0.mk (HJ.out.step hB)); clear hB; (obtain ⟨x0, x1, x2, x3, x4, x5, x6, x7⟩ := row8_cells HJ.out.ra); (obtain ⟨y0, y1, y2, y3, y4, y5, y6, y7⟩ := row8_cells HJ.out.rb))
      go_ret
      exact ⟨rfl, HJ.out.bel⟩
    · have d2 : decide (300 < (n' : Int)) = false := decide_eq_false (by omega)
      by_cases g3 : tx < 0
      · have d3 : decide (tx < 0) = true := decide_eq_true g3
        go_wp2_with (go_at_call 9; (with_reducible refine (alive09_any _).mono ?_); rintro e wa ⟨rfl, hB⟩; (replace HJ := Aside0.mk (HJ.out.step hB)); clear hB; (obtain ⟨x0, x1, x2, x3, x4, x5, x6, x7⟩ := row8_cells HJ.out.ra); (obtain ⟨y0, y1, y2, y3, y4, y5, y6, y7⟩ := row8_cells HJ.out.rb))
        go_ret
        exact ⟨rfl, HJ.out.bel⟩
      · have d3 : decide (tx < 0) = false := decide_eq_false g3
        have i1 : tx.tmod 2 = tx % 2 := Int.tmod_eq_emod_of_nonneg (by omega)
        clear g1 g2 g3
        go_upto_region 3 with fail
        have HXB := Aside0.mk (HX.out.below HJ.out.bel)
        have HYB := Aside0.mk (HY.out.below HJ.out.bel)
        refine wp_region_ext (by kernel_rfl) (by kernel_rfl) ?_
        have a0 := cell_ext x0
        have a1 := cell_ext x1
        have a2 := cell_ext x2
        have a3 := cell_ext x3
        have a4 := cell_ext x4
        have a5 := cell_ext x5
        have a6 := cell_ext x6
        have a7 := cell_ext x7
        have b0 := cell_ext y0
        have b1 := cell_ext y1
        have b2 := cell_ext y2
        have b3 := cell_ext y3
        have b4 := cell_ext y4
        have b5 := cell_ext y5
        have b6 := cell_ext y6
        have b7 := cell_ext y7
        clear x0 x1 x2 x3 x4 x5 x6 x7 y0 y1 y2 y3 y4 y5 y6 y7
        repeat (go_big_quiet_step (first
          | (go_at_call 9; exact Calls.ext_of (alive09_any _))
          | (go_at_call 16; exact Calls.ext_of (msame_any ge ph tg tx rt pg li A n c xs ge' ph' tg' tx' rt' pg' li' A' n' c' ys _ (HXB.out.ext _) (HYB.out.ext _)))
          | (go_at_call 18; exact Calls.ext_of (rmsame_any ge ph tg tx rt pg li A n c xs ge' ph' tg' tx' rt' pg' li' A' n' c' ys _ (HXB.out.ext _) (HYB.out.ext _)))
          | (go_at_call 22; exact Calls.ext_same (slot_any tx _))))
        refine wpQuiet_nil ?_
        rintro w' ⟨kx, rfl⟩
        have hBk := below_then HJ.out.bel HJ.out.bel.size kx.bel
        go_wp2
        go_ret
        exact ⟨rfl, hBk⟩
end Go.Proofs.Ytenibcbodjkglaa
