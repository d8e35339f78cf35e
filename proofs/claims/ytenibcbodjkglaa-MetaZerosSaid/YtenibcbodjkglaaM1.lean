/- The walks of meta's small functions: page, phase, Right, Write, Slot. -/
import Derived.Test.YtenibcbodjkglaaI2
import Derived.Test.YtenibcbodjkglaaH4
import Derived.Test.YtenibcbodjkglaaQ0
set_option linter.unusedVariables false
set_option linter.unusedSimpArgs false
namespace Go.Proofs.Ytenibcbodjkglaa
open Go.RowKit

theorem row8_cells {W : World} {g : Nat} {T : TypeId} {a b c d e f h i : Value} (k : W.heap[g]? = some (.cells #[a, b, c, d, e, f, h, i] T)) :
    W.cell? ⟨g, 0, none⟩ = some a ∧ W.cell? ⟨g, 1, none⟩ = some b ∧ W.cell? ⟨g, 2, none⟩ = some c ∧ W.cell? ⟨g, 3, none⟩ = some d ∧ W.cell? ⟨g, 4, none⟩ = some e ∧ W.cell? ⟨g, 5, none⟩ = some f ∧ W.cell? ⟨g, 6, none⟩ = some h ∧ W.cell? ⟨g, 7, none⟩ = some i :=
  ⟨by rw [cell_of_row _ _ _ _ _ _ k]; rfl, by rw [cell_of_row _ _ _ _ _ _ k]; rfl, by rw [cell_of_row _ _ _ _ _ _ k]; rfl, by rw [cell_of_row _ _ _ _ _ _ k]; rfl, by rw [cell_of_row _ _ _ _ _ _ k]; rfl, by rw [cell_of_row _ _ _ _ _ _ k]; rfl, by rw [cell_of_row _ _ _ _ _ _ k]; rfl, by rw [cell_of_row _ _ _ _ _ _ k]; rfl⟩
def pageB (pg id : Int) : Bool := decide (2 ≤ id ∧ id < pg)
def phaseB (ge ph tg : Int) (n : Nat) : Bool := decide ((ph = 0 ∧ 1 ≤ ge ∧ ge ≤ 3 ∧ tg = 0 ∧ n = 0) ∨ (ph = 1 ∧ 1 ≤ ge ∧ ge ≤ 3 ∧ 1 ≤ tg ∧ tg ≤ 3 ∧ ge < tg ∧ (n : Int) ≤ mkI tg))
def mrightB (ge ph tg tx rt pg li : Int) (n : Nat) : Bool := decide (phaseB ge ph tg n = true ∧ 1 ≤ tx ∧ tx ≤ 2147483647 ∧ 3 ≤ pg ∧ pg ≤ 16384 ∧ 2 ≤ rt ∧ rt < pg ∧ (li = 0 ∨ (2 ≤ li ∧ li < pg)))
theorem gen_v {g : Int} {b : Bool} (h : genB g = b) (w : World) : Calls Try.prog 42 #[.int .i64 g] w fun e w' => e = .returned (.bool b) ∧ w = w' := by
  rw [← h]
  exact gen_any g w
theorem eq0 (a b : Int) (h : a = b) : (a == b) = true := beq_iff_eq.mpr h
theorem ne0 (a b : Int) (h : ¬ a = b) : (a == b) = false := beq_eq_false_iff_ne.mpr h

set_option maxHeartbeats 1000000 in
set_option maxRecDepth 100000 in
theorem mpage_any (ge ph tg tx rt pg li : Int) (A : Option Addr) (n c : Nat) (id : Int) (w : World) :
    Calls Try.prog 37 #[.agg #[.int .i64 ge, .int .i64 ph, .int .i64 tg, .int .i64 tx, .int .i64 rt, .int .i64 pg, .int .i64 li, .slice A n c], .int .i64 id] w fun e w' => e = .returned (.bool (pageB pg id)) ∧ Below w.heap.size w w' := by
  have HB := Aside0.mk ((Below.refl w.heap.size w).alloc (Nat.le_refl _) (.cells #[.int .i64 ge, .int .i64 ph, .int .i64 tg, .int .i64 tx, .int .i64 rt, .int .i64 pg, .int .i64 li, .slice A n c] 26))
  by_cases h1 : 2 ≤ id
  · have f1 := decide_eq_true h1
    by_cases h2 : id < pg
    · have f2 := decide_eq_true h2
      have hv := Aside0.mk (show pageB pg id = true from decide_eq_true ⟨h1, h2⟩)
      go_enter Try.func37, Try.ntmps37
      go_wp2
      go_ret
      exact ⟨ret_bool hv.out.symm, HB.out⟩
    · have f2 := decide_eq_false h2
      have hv := Aside0.mk (show pageB pg id = false from decide_eq_false (fun k => h2 k.2))
      go_enter Try.func37, Try.ntmps37
      go_wp2
      go_ret
      exact ⟨ret_bool hv.out.symm, HB.out⟩
  · have f1 := decide_eq_false h1
    have hv := Aside0.mk (show pageB pg id = false from decide_eq_false (fun k => h1 k.1))
    go_enter Try.func37, Try.ntmps37
    go_wp2
    go_ret
    exact ⟨ret_bool hv.out.symm, HB.out⟩

set_option maxHeartbeats 2000000 in
set_option maxRecDepth 100000 in
theorem mphase_any (ge ph tg tx rt pg li : Int) (A : Option Addr) (n c : Nat) (w : World) (hn : n ≤ 140737488355328) :
    Calls Try.prog 36 #[.agg #[.int .i64 ge, .int .i64 ph, .int .i64 tg, .int .i64 tx, .int .i64 rt, .int .i64 pg, .int .i64 li, .slice A n c]] w fun e w' => e = .returned (.bool (phaseB ge ph tg n)) ∧ Below w.heap.size w w' := by
  have HB := Aside0.mk ((Below.refl w.heap.size w).alloc (Nat.le_refl _) (.cells #[.int .i64 ge, .int .i64 ph, .int .i64 tg, .int .i64 tx, .int .i64 rt, .int .i64 pg, .int .i64 li, .slice A n c] 26))
  obtain ⟨z0, z1, z2, z3, z4, z5, z6, z7⟩ := row8_cells (heap_alloc_new w (.cells #[.int .i64 ge, .int .i64 ph, .int .i64 tg, .int .i64 tx, .int .i64 rt, .int .i64 pg, .int .i64 li, .slice A n c] 26))
  clear z3 z4 z5 z6
  by_cases hp : ph = 0
  · have fp := eq0 ph 0 hp
    by_cases h0 : 1 ≤ ge ∧ ge ≤ 3
    · have g1 : genB ge = true := decide_eq_true h0
      by_cases h1 : tg = 0
      · have f2 := eq0 tg 0 h1
        by_cases h2 : n = 0
        · have f3 := eq0 (n : Int) 0 (by omega)
          have hv := Aside0.mk (show phaseB ge ph tg n = true from decide_eq_true (by omega))
          clear hp h0 h1 h2
          go_enter Try.func36, Try.ntmps36
          go_wp2_with (go_at_call 42; first | ((with_reducible refine (gen_any ge _).mono ?_); rintro e w1 ⟨rfl, rfl⟩; rw [g1]) | ((with_reducible refine (gen_any tg _).mono ?_); rintro e w1 ⟨rfl, rfl⟩; rw [g2]))
          go_ret
          exact ⟨ret_bool hv.out.symm, HB.out⟩
        · have f3 := ne0 (n : Int) 0 (by omega)
          have hv := Aside0.mk (show phaseB ge ph tg n = false from decide_eq_false (by omega))
          clear hp h0 h1 h2
          go_enter Try.func36, Try.ntmps36
          go_wp2_with (go_at_call 42; first | ((with_reducible refine (gen_any ge _).mono ?_); rintro e w1 ⟨rfl, rfl⟩; rw [g1]) | ((with_reducible refine (gen_any tg _).mono ?_); rintro e w1 ⟨rfl, rfl⟩; rw [g2]))
          go_ret
          exact ⟨ret_bool hv.out.symm, HB.out⟩
      · have f2 := ne0 tg 0 h1
        have hv := Aside0.mk (show phaseB ge ph tg n = false from decide_eq_false (by omega))
        clear hp h0 h1
        go_enter Try.func36, Try.ntmps36
        go_wp2_with (go_at_call 42; first | ((with_reducible refine (gen_any ge _).mono ?_); rintro e w1 ⟨rfl, rfl⟩; rw [g1]) | ((with_reducible refine (gen_any tg _).mono ?_); rintro e w1 ⟨rfl, rfl⟩; rw [g2]))
        go_ret
        exact ⟨ret_bool hv.out.symm, HB.out⟩
    · have g1 : genB ge = false := decide_eq_false h0
      have hv := Aside0.mk (show phaseB ge ph tg n = false from decide_eq_false (by omega))
      clear hp h0
      go_enter Try.func36, Try.ntmps36
      go_wp2_with (go_at_call 42; first | ((with_reducible refine (gen_any ge _).mono ?_); rintro e w1 ⟨rfl, rfl⟩; rw [g1]) | ((with_reducible refine (gen_any tg _).mono ?_); rintro e w1 ⟨rfl, rfl⟩; rw [g2]))
      go_ret
      exact ⟨ret_bool hv.out.symm, HB.out⟩
  · have fp := ne0 ph 0 hp
    by_cases hq : ph = 1
    · have fq := eq0 ph 1 hq
      by_cases h0 : 1 ≤ ge ∧ ge ≤ 3
      · have g1 : genB ge = true := decide_eq_true h0
        by_cases h1 : 1 ≤ tg ∧ tg ≤ 3
        · have g2 : genB tg = true := decide_eq_true h1
          by_cases h2 : ge < tg
          · have f2 : decide (ge < tg) = true := decide_eq_true h2
            by_cases h3 : (n : Int) ≤ mkI tg
            · have f3 : decide ((n : Int) ≤ mkI tg) = true := decide_eq_true h3
              have hv := Aside0.mk (show phaseB ge ph tg n = true from decide_eq_true (by omega))
              clear hp hq h0 h1 h2 h3
              go_enter Try.func36, Try.ntmps36
              go_wp2_with fail
              refine wp_region_ext (by kernel_rfl) (by kernel_rfl) ?_
              have x0 := cell_ext z0
              have x1 := cell_ext z1
              have x2 := cell_ext z2
              have x7 := cell_ext z7
              repeat (go_big_quiet_step ((first | (go_at_call 42; first | (with_reducible exact Calls.ext_same (gen_v g1 _)) | (with_reducible exact Calls.ext_same (gen_v g2 _))) | (go_at_call 52; exact Calls.ext_of (maxKey_any tg _)))))
              refine wpQuiet_nil ?_
              rintro w' ⟨kx, rfl⟩
              have hBk := below_then HB.out (by simp) kx.bel
              go_wp2
              go_ret
              exact ⟨ret_bool hv.out.symm, hBk⟩
            · have f3 : decide ((n : Int) ≤ mkI tg) = false := decide_eq_false h3
              have hv := Aside0.mk (show phaseB ge ph tg n = false from decide_eq_false (by omega))
              clear hp hq h0 h1 h2 h3
              go_enter Try.func36, Try.ntmps36
              go_wp2_with fail
              refine wp_region_ext (by kernel_rfl) (by kernel_rfl) ?_
              have x0 := cell_ext z0
              have x1 := cell_ext z1
              have x2 := cell_ext z2
              have x7 := cell_ext z7
              repeat (go_big_quiet_step ((first | (go_at_call 42; first | (with_reducible exact Calls.ext_same (gen_v g1 _)) | (with_reducible exact Calls.ext_same (gen_v g2 _))) | (go_at_call 52; exact Calls.ext_of (maxKey_any tg _)))))
              refine wpQuiet_nil ?_
              rintro w' ⟨kx, rfl⟩
              have hBk := below_then HB.out (by simp) kx.bel
              go_wp2
              go_ret
              exact ⟨ret_bool hv.out.symm, hBk⟩
          · have f2 : decide (ge < tg) = false := decide_eq_false h2
            have hv := Aside0.mk (show phaseB ge ph tg n = false from decide_eq_false (by omega))
            clear hp hq h0 h1 h2
            go_enter Try.func36, Try.ntmps36
            go_wp2_with fail
            refine wp_region_ext (by kernel_rfl) (by kernel_rfl) ?_
            have x0 := cell_ext z0
            have x1 := cell_ext z1
            have x2 := cell_ext z2
            have x7 := cell_ext z7
            repeat (go_big_quiet_step ((first | (go_at_call 42; first | (with_reducible exact Calls.ext_same (gen_v g1 _)) | (with_reducible exact Calls.ext_same (gen_v g2 _))) | (go_at_call 52; exact Calls.ext_of (maxKey_any tg _)))))
            refine wpQuiet_nil ?_
            rintro w' ⟨kx, rfl⟩
            have hBk := below_then HB.out (by simp) kx.bel
            go_wp2
            go_ret
            exact ⟨ret_bool hv.out.symm, hBk⟩
        · have g2 : genB tg = false := decide_eq_false h1
          have hv := Aside0.mk (show phaseB ge ph tg n = false from decide_eq_false (by omega))
          clear hp hq h0 h1
          go_enter Try.func36, Try.ntmps36
          go_wp2_with fail
          refine wp_region_ext (by kernel_rfl) (by kernel_rfl) ?_
          have x0 := cell_ext z0
          have x1 := cell_ext z1
          have x2 := cell_ext z2
          have x7 := cell_ext z7
          repeat (go_big_quiet_step ((first | (go_at_call 42; first | (with_reducible exact Calls.ext_same (gen_v g1 _)) | (with_reducible exact Calls.ext_same (gen_v g2 _))) | (go_at_call 52; exact Calls.ext_of (maxKey_any tg _)))))
          refine wpQuiet_nil ?_
          rintro w' ⟨kx, rfl⟩
          have hBk := below_then HB.out (by simp) kx.bel
          go_wp2
          go_ret
          exact ⟨ret_bool hv.out.symm, hBk⟩
      · have g1 : genB ge = false := decide_eq_false h0
        have hv := Aside0.mk (show phaseB ge ph tg n = false from decide_eq_false (by omega))
        clear hp hq h0
        go_enter Try.func36, Try.ntmps36
        go_wp2_with fail
        refine wp_region_ext (by kernel_rfl) (by kernel_rfl) ?_
        have x0 := cell_ext z0
        have x1 := cell_ext z1
        have x2 := cell_ext z2
        have x7 := cell_ext z7
        repeat (go_big_quiet_step ((first | (go_at_call 42; first | (with_reducible exact Calls.ext_same (gen_v g1 _)) | (with_reducible exact Calls.ext_same (gen_v g2 _))) | (go_at_call 52; exact Calls.ext_of (maxKey_any tg _)))))
        refine wpQuiet_nil ?_
        rintro w' ⟨kx, rfl⟩
        have hBk := below_then HB.out (by simp) kx.bel
        go_wp2
        go_ret
        exact ⟨ret_bool hv.out.symm, hBk⟩
    · have fq := ne0 ph 1 hq
      have hv := Aside0.mk (show phaseB ge ph tg n = false from decide_eq_false (by omega))
      clear hp hq
      go_enter Try.func36, Try.ntmps36
      go_wp2_with fail
      refine wp_region_ext (by kernel_rfl) (by kernel_rfl) ?_
      have x0 := cell_ext z0
      have x1 := cell_ext z1
      have x2 := cell_ext z2
      have x7 := cell_ext z7
      repeat (go_big_quiet_step ((first | (go_at_call 42; first | (with_reducible exact Calls.ext_same (gen_v g1 _)) | (with_reducible exact Calls.ext_same (gen_v g2 _))) | (go_at_call 52; exact Calls.ext_of (maxKey_any tg _)))))
      refine wpQuiet_nil ?_
      rintro w' ⟨kx, rfl⟩
      have hBk := below_then HB.out (by simp) kx.bel
      go_wp2
      go_ret
      exact ⟨ret_bool hv.out.symm, hBk⟩

end Go.Proofs.Ytenibcbodjkglaa
