/- The walks of meta's small functions: page, phase, Right, Write, Slot. The walks of meta's Right, Write, Slot. The walks of meta's numbers, heads, Same. The walk of meta's Encode. -/
import Derived.Test.YthhalmjapiempaaZ2
import Derived.Test.YthhalmjapiempaaZ5
import Derived.Test.YthhalmjapiempaaZ1
import Derived.Deep.DeepCutAuto
import Derived.Deep.CutBlock
import Derived.Deep.RegionHeld3
set_option linter.unusedVariables false
set_option linter.unusedSimpArgs false
namespace Go.Proofs.Ythhalmjapiempaa
open Go.RowKit

theorem row8_cells {W : World} {g : Nat} {T : TypeId} {a b c d e f h i : Value} (k : W.heap[g]? = some (.cells #[a, b, c, d, e, f, h, i] T)) :
    W.cell? ⟨g, 0, none⟩ = some a ∧ W.cell? ⟨g, 1, none⟩ = some b ∧ W.cell? ⟨g, 2, none⟩ = some c ∧ W.cell? ⟨g, 3, none⟩ = some d ∧ W.cell? ⟨g, 4, none⟩ = some e ∧ W.cell? ⟨g, 5, none⟩ = some f ∧ W.cell? ⟨g, 6, none⟩ = some h ∧ W.cell? ⟨g, 7, none⟩ = some i :=
  ⟨by rw [cell_of_row _ _ _ _ _ _ k]; rfl, by rw [cell_of_row _ _ _ _ _ _ k]; rfl, by rw [cell_of_row _ _ _ _ _ _ k]; rfl, by rw [cell_of_row _ _ _ _ _ _ k]; rfl, by rw [cell_of_row _ _ _ _ _ _ k]; rfl, by rw [cell_of_row _ _ _ _ _ _ k]; rfl, by rw [cell_of_row _ _ _ _ _ _ k]; rfl, by rw [cell_of_row _ _ _ _ _ _ k]; rfl⟩
def pageB (pg id : Int) : Bool := decide (2 ≤ id ∧ id < pg)
def phaseB (ge ph tg : Int) (n : Nat) : Bool := decide ((ph = 0 ∧ 1 ≤ ge ∧ ge ≤ 3 ∧ tg = 0 ∧ n = 0) ∨ (ph = 1 ∧ 1 ≤ ge ∧ ge ≤ 3 ∧ 1 ≤ tg ∧ tg ≤ 3 ∧ ge < tg ∧ (n : Int) ≤ mkI tg))
def mrightB (ge ph tg tx rt pg li : Int) (n : Nat) : Bool := decide (phaseB ge ph tg n = true ∧ 1 ≤ tx ∧ tx ≤ 2147483647 ∧ 3 ≤ pg ∧ pg ≤ 16384 ∧ 2 ≤ rt ∧ rt < pg ∧ (li = 0 ∨ (2 ≤ li ∧ li < pg)))
theorem gen_v {g : Int} {b : Bool} (h : genB g = b) (w : World) : Calls Try.prog 99 #[.int .i64 g] w fun e w' => e = .returned (.bool b) ∧ w = w' := by
  rw [← h]
  exact gen_any g w
theorem eq0 (a b : Int) (h : a = b) : (a == b) = true := beq_iff_eq.mpr h
theorem ne0 (a b : Int) (h : ¬ a = b) : (a == b) = false := beq_eq_false_iff_ne.mpr h

set_option maxHeartbeats 1000000 in
set_option maxRecDepth 100000 in
theorem mpage_any (ge ph tg tx rt pg li : Int) (A : Option Addr) (n c : Nat) (id : Int) (w : World) :
    Calls Try.prog 83 #[.agg #[.int .i64 ge, .int .i64 ph, .int .i64 tg, .int .i64 tx, .int .i64 rt, .int .i64 pg, .int .i64 li, .slice A n c], .int .i64 id] w fun e w' => e = .returned (.bool (pageB pg id)) ∧ Below w.heap.size w w' := by
  have HB := Aside0.mk ((Below.refl w.heap.size w).alloc (Nat.le_refl _) (.cells #[.int .i64 ge, .int .i64 ph, .int .i64 tg, .int .i64 tx, .int .i64 rt, .int .i64 pg, .int .i64 li, .slice A n c] 36))
  by_cases h1 : 2 ≤ id
  · have f1 := decide_eq_true h1
    by_cases h2 : id < pg
    · have f2 := decide_eq_true h2
      have hv := Aside0.mk (show pageB pg id = true from decide_eq_true ⟨h1, h2⟩)
      go_enter Try.func83, Try.ntmps83
      go_wp2
      go_ret
      exact ⟨ret_bool hv.out.symm, HB.out⟩
    · have f2 := decide_eq_false h2
      have hv := Aside0.mk (show pageB pg id = false from decide_eq_false (fun k => h2 k.2))
      go_enter Try.func83, Try.ntmps83
      go_wp2
      go_ret
      exact ⟨ret_bool hv.out.symm, HB.out⟩
  · have f1 := decide_eq_false h1
    have hv := Aside0.mk (show pageB pg id = false from decide_eq_false (fun k => h1 k.1))
    go_enter Try.func83, Try.ntmps83
    go_wp2
    go_ret
    exact ⟨ret_bool hv.out.symm, HB.out⟩

set_option maxHeartbeats 2000000 in
set_option maxRecDepth 100000 in
theorem mphase_any (ge ph tg tx rt pg li : Int) (A : Option Addr) (n c : Nat) (w : World) (hn : n ≤ 140737488355328) :
    Calls Try.prog 82 #[.agg #[.int .i64 ge, .int .i64 ph, .int .i64 tg, .int .i64 tx, .int .i64 rt, .int .i64 pg, .int .i64 li, .slice A n c]] w fun e w' => e = .returned (.bool (phaseB ge ph tg n)) ∧ Below w.heap.size w w' := by
  have HB := Aside0.mk ((Below.refl w.heap.size w).alloc (Nat.le_refl _) (.cells #[.int .i64 ge, .int .i64 ph, .int .i64 tg, .int .i64 tx, .int .i64 rt, .int .i64 pg, .int .i64 li, .slice A n c] 36))
  obtain ⟨z0, z1, z2, z3, z4, z5, z6, z7⟩ := row8_cells (heap_alloc_new w (.cells #[.int .i64 ge, .int .i64 ph, .int .i64 tg, .int .i64 tx, .int .i64 rt, .int .i64 pg, .int .i64 li, .slice A n c] 36))
  clear z3 z4 z5 z6
  by_cases hp : ph = 0
  · have fp := eq0 ph 0 hp
    by_cases h0 : 1 ≤ ge ∧ ge ≤ 3
    · have g1 : genB ge = true := decide_eq_true h0
      by_cases h1 : tg = 0
      · have f2 := eq0 tg 0 h1
        by_cases h2 : n = 0
        · have f3 := eq0 (n : Int) 0 (by omega)
          have hv := Aside0.mk (show phaseB ge ph tg n = true from decide_eq_true (by omega))
          clear hp h0 h1 h2
          go_enter Try.func82, Try.ntmps82
          go_wp2_with (go_at_call 99; first | ((with_reducible refine (gen_any ge _).mono ?_); rintro e w1 ⟨rfl, rfl⟩; rw [g1]) | ((with_reducible refine (gen_any tg _).mono ?_); rintro e w1 ⟨rfl, rfl⟩; rw [g2]))
          go_ret
          exact ⟨ret_bool hv.out.symm, HB.out⟩
        · have f3 := ne0 (n : Int) 0 (by omega)
          have hv := Aside0.mk (show phaseB ge ph tg n = false from decide_eq_false (by omega))
          clear hp h0 h1 h2
          go_enter Try.func82, Try.ntmps82
          go_wp2_with (go_at_call 99; first | ((with_reducible refine (gen_any ge _).mono ?_); rintro e w1 ⟨rfl, rfl⟩; rw [g1]) | ((with_reducible refine (gen_any tg _).mono ?_); rintro e w1 ⟨rfl, rfl⟩; rw [g2]))
          go_ret
          exact ⟨ret_bool hv.out.symm, HB.out⟩
      · have f2 := ne0 tg 0 h1
        have hv := Aside0.mk (show phaseB ge ph tg n = false from decide_eq_false (by omega))
        clear hp h0 h1
        go_enter Try.func82, Try.ntmps82
        go_wp2_with (go_at_call 99; first | ((with_reducible refine (gen_any ge _).mono ?_); rintro e w1 ⟨rfl, rfl⟩; rw [g1]) | ((with_reducible refine (gen_any tg _).mono ?_); rintro e w1 ⟨rfl, rfl⟩; rw [g2]))
        go_ret
        exact ⟨ret_bool hv.out.symm, HB.out⟩
    · have g1 : genB ge = false := decide_eq_false h0
      have hv := Aside0.mk (show phaseB ge ph tg n = false from decide_eq_false (by omega))
      clear hp h0
      go_enter Try.func82, Try.ntmps82
      go_wp2_with (go_at_call 99; first | ((with_reducible refine (gen_any ge _).mono ?_); rintro e w1 ⟨rfl, rfl⟩; rw [g1]) | ((with_reducible refine (gen_any tg _).mono ?_); rintro e w1 ⟨rfl, rfl⟩; rw [g2]))
      go_ret
      exact ⟨ret_bool hv.out.symm, HB.out⟩
  · have fp := ne0 ph 0 hp
    by_cases hq : ph = 1
    · have fq := eq0 ph 1 hq
      by_cases h0 : 1 ≤ ge ∧ ge ≤ 3
      · have g1 : genB ge = true := decide_eq_true h0
        by_cases h1 : 1 ≤ tg ∧ tg ≤ 3
        · have g2 : genB tg = true := decide_eq_true h1
          by_cases h2 : ge < tg
          · have f2 : decide (ge < tg) = true := decide_eq_true h2
            by_cases h3 : (n : Int) ≤ mkI tg
            · have f3 : decide ((n : Int) ≤ mkI tg) = true := decide_eq_true h3
              have hv := Aside0.mk (show phaseB ge ph tg n = true from decide_eq_true (by omega))
              clear hp hq h0 h1 h2 h3
              go_enter Try.func82, Try.ntmps82
              go_wp2_with fail
              refine wp_region_ext (by kernel_rfl) (by kernel_rfl) ?_
              have x0 := cell_ext z0
              have x1 := cell_ext z1
              have x2 := cell_ext z2
              have x7 := cell_ext z7
              repeat (go_big_quiet_step ((first | (go_at_call 99; first | (with_reducible exact Calls.ext_same (gen_v g1 _)) | (with_reducible exact Calls.ext_same (gen_v g2 _))) | (go_at_call 101; exact Calls.ext_of (maxKey_any tg _)))))
              refine wpQuiet_nil ?_
              rintro w' ⟨kx, rfl⟩
              have hBk := below_then HB.out (by simp) kx.bel
              go_wp2
              go_ret
              exact ⟨ret_bool hv.out.symm, hBk⟩
            · have f3 : decide ((n : Int) ≤ mkI tg) = false := decide_eq_false h3
              have hv := Aside0.mk (show phaseB ge ph tg n = false from decide_eq_false (by omega))
              clear hp hq h0 h1 h2 h3
              go_enter Try.func82, Try.ntmps82
              go_wp2_with fail
              refine wp_region_ext (by kernel_rfl) (by kernel_rfl) ?_
              have x0 := cell_ext z0
              have x1 := cell_ext z1
              have x2 := cell_ext z2
              have x7 := cell_ext z7
              repeat (go_big_quiet_step ((first | (go_at_call 99; first | (with_reducible exact Calls.ext_same (gen_v g1 _)) | (with_reducible exact Calls.ext_same (gen_v g2 _))) | (go_at_call 101; exact Calls.ext_of (maxKey_any tg _)))))
              refine wpQuiet_nil ?_
              rintro w' ⟨kx, rfl⟩
              have hBk := below_then HB.out (by simp) kx.bel
              go_wp2
              go_ret
              exact ⟨ret_bool hv.out.symm, hBk⟩
          · have f2 : decide (ge < tg) = false := decide_eq_false h2
            have hv := Aside0.mk (show phaseB ge ph tg n = false from decide_eq_false (by omega))
            clear hp hq h0 h1 h2
            go_enter Try.func82, Try.ntmps82
            go_wp2_with fail
            refine wp_region_ext (by kernel_rfl) (by kernel_rfl) ?_
            have x0 := cell_ext z0
            have x1 := cell_ext z1
            have x2 := cell_ext z2
            have x7 := cell_ext z7
            repeat (go_big_quiet_step ((first | (go_at_call 99; first | (with_reducible exact Calls.ext_same (gen_v g1 _)) | (with_reducible exact Calls.ext_same (gen_v g2 _))) | (go_at_call 101; exact Calls.ext_of (maxKey_any tg _)))))
            refine wpQuiet_nil ?_
            rintro w' ⟨kx, rfl⟩
            have hBk := below_then HB.out (by simp) kx.bel
            go_wp2
            go_ret
            exact ⟨ret_bool hv.out.symm, hBk⟩
        · have g2 : genB tg = false := decide_eq_false h1
          have hv := Aside0.mk (show phaseB ge ph tg n = false from decide_eq_false (by omega))
          clear hp hq h0 h1
          go_enter Try.func82, Try.ntmps82
          go_wp2_with fail
          refine wp_region_ext (by kernel_rfl) (by kernel_rfl) ?_
          have x0 := cell_ext z0
          have x1 := cell_ext z1
          have x2 := cell_ext z2
          have x7 := cell_ext z7
          repeat (go_big_quiet_step ((first | (go_at_call 99; first | (with_reducible exact Calls.ext_same (gen_v g1 _)) | (with_reducible exact Calls.ext_same (gen_v g2 _))) | (go_at_call 101; exact Calls.ext_of (maxKey_any tg _)))))
          refine wpQuiet_nil ?_
          rintro w' ⟨kx, rfl⟩
          have hBk := below_then HB.out (by simp) kx.bel
          go_wp2
          go_ret
          exact ⟨ret_bool hv.out.symm, hBk⟩
      · have g1 : genB ge = false := decide_eq_false h0
        have hv := Aside0.mk (show phaseB ge ph tg n = false from decide_eq_false (by omega))
        clear hp hq h0
        go_enter Try.func82, Try.ntmps82
        go_wp2_with fail
        refine wp_region_ext (by kernel_rfl) (by kernel_rfl) ?_
        have x0 := cell_ext z0
        have x1 := cell_ext z1
        have x2 := cell_ext z2
        have x7 := cell_ext z7
        repeat (go_big_quiet_step ((first | (go_at_call 99; first | (with_reducible exact Calls.ext_same (gen_v g1 _)) | (with_reducible exact Calls.ext_same (gen_v g2 _))) | (go_at_call 101; exact Calls.ext_of (maxKey_any tg _)))))
        refine wpQuiet_nil ?_
        rintro w' ⟨kx, rfl⟩
        have hBk := below_then HB.out (by simp) kx.bel
        go_wp2
        go_ret
        exact ⟨ret_bool hv.out.symm, hBk⟩
    · have fq := ne0 ph 1 hq
      have hv := Aside0.mk (show phaseB ge ph tg n = false from decide_eq_false (by omega))
      clear hp hq
      go_enter Try.func82, Try.ntmps82
      go_wp2_with fail
      refine wp_region_ext (by kernel_rfl) (by kernel_rfl) ?_
      have x0 := cell_ext z0
      have x1 := cell_ext z1
      have x2 := cell_ext z2
      have x7 := cell_ext z7
      repeat (go_big_quiet_step ((first | (go_at_call 99; first | (with_reducible exact Calls.ext_same (gen_v g1 _)) | (with_reducible exact Calls.ext_same (gen_v g2 _))) | (go_at_call 101; exact Calls.ext_of (maxKey_any tg _)))))
      refine wpQuiet_nil ?_
      rintro w' ⟨kx, rfl⟩
      have hBk := below_then HB.out (by simp) kx.bel
      go_wp2
      go_ret
      exact ⟨ret_bool hv.out.symm, hBk⟩

end Go.Proofs.Ythhalmjapiempaa

set_option linter.unusedVariables false
set_option linter.unusedSimpArgs false
namespace Go.Proofs.Ythhalmjapiempaa
open Go.RowKit

theorem and1 (a : Int) : bits .and .i64 a 1 = a % 2 := by
  show IntKind.i64.wrap ((BitVec.ofInt 64 a &&& BitVec.ofInt 64 1).toNat : Int) = _
  rw [BitVec.toNat_and, show (BitVec.ofInt 64 1).toNat = 1 from rfl, Nat.and_one_is_mod, BitVec.toNat_ofInt]
  have e : IntKind.i64.wrap (((a % (2 ^ 64 : Nat)).toNat % 2 : Nat) : Int) = (((a % (2 ^ 64 : Nat)).toNat % 2 : Nat) : Int) := by
    have : (a % (2 ^ 64 : Nat)).toNat % 2 < 2 := Nat.mod_lt _ (by decide)
    rw [IntKind.wrap_i64]
    omega
  rw [e]
  omega

set_option maxHeartbeats 2000000 in
set_option maxRecDepth 100000 in
theorem slot_any (tx : Int) (w : World) :
    Calls Try.prog 44 #[.int .i64 tx] w fun e w' => e = .returned (.int .i64 (tx % 2)) ∧ w = w' := by
  have ha := and1 tx
  go_enter Try.func44, Try.ntmps44
  go_wp2
  go_ret
  exact ⟨by first | done | rfl | simp [ha], rfl⟩
set_option maxHeartbeats 2000000 in
set_option maxRecDepth 100000 in
theorem mright_any (ge ph tg tx rt pg li : Int) (A : Option Addr) (n c : Nat) (w : World) (hn : n ≤ 140737488355328) :
    Calls Try.prog 58 #[.agg #[.int .i64 ge, .int .i64 ph, .int .i64 tg, .int .i64 tx, .int .i64 rt, .int .i64 pg, .int .i64 li, .slice A n c]] w fun e w' => e = .returned (.bool (mrightB ge ph tg tx rt pg li n)) ∧ Below w.heap.size w w' := by
  have HB := Aside0.mk ((Below.refl w.heap.size w).alloc (Nat.le_refl _) (.cells #[.int .i64 ge, .int .i64 ph, .int .i64 tg, .int .i64 tx, .int .i64 rt, .int .i64 pg, .int .i64 li, .slice A n c] 36))
  have hr := Aside0.mk (heap_alloc_new w (.cells #[.int .i64 ge, .int .i64 ph, .int .i64 tg, .int .i64 tx, .int .i64 rt, .int .i64 pg, .int .i64 li, .slice A n c] 36))
  by_cases h0 : phaseB ge ph tg n = true
  · have g0 := h0
    by_cases h1 : 1 ≤ tx
    · have f1 : decide (1 ≤ tx) = true := decide_eq_true h1
      by_cases h2 : tx ≤ 2147483647
      · have f2 : decide (tx ≤ 2147483647) = true := decide_eq_true h2
        by_cases h3 : 3 ≤ pg
        · have f3 : decide (3 ≤ pg) = true := decide_eq_true h3
          by_cases h4 : pg ≤ 16384
          · have f4 : decide (pg ≤ 16384) = true := decide_eq_true h4
            by_cases h5 : 2 ≤ rt ∧ rt < pg
            · have g5 : pageB pg rt = true := decide_eq_true h5
              by_cases h6 : li = 0
              · have f6 := eq0 li 0 h6
                have hv := Aside0.mk (show mrightB ge ph tg tx rt pg li n = true from decide_eq_true (by refine ⟨h0, ?_⟩; omega))
                clear h0 h1 h2 h3 h4 h5 h6
                go_enter Try.func58, Try.ntmps58
                go_wp2_with (first | (go_at_call 82; refine (mphase_any ge ph tg tx rt pg li A n c _ hn).mono ?_; rintro e w1 ⟨rfl, hB1⟩; rw [g0]; (have HR1 := Aside0.mk (And.intro (below_then HB.out (by simp) hB1) ((hB1.block w.heap.size (by simp)).trans hr.out))); clear hB1; obtain ⟨c0, c1, c2, c3, c4, c5, c6, c7⟩ := row8_cells HR1.out.2) | (go_at_call 83; first | ((with_reducible refine (mpage_any ge ph tg tx rt pg li A n c rt w1).mono ?_); rintro e w2 ⟨rfl, hB2⟩; rw [g5]; (have HR2 := Aside0.mk (And.intro (below_then HR1.out.1 HR1.out.1.size hB2) ((hB2.block w.heap.size (Array.getElem?_eq_some_iff.1 HR1.out.2).1).trans HR1.out.2))); clear hB2 c0 c1 c2 c3 c4 c5 c6 c7; obtain ⟨c0, c1, c2, c3, c4, c5, c6, c7⟩ := row8_cells HR2.out.2) | ((with_reducible refine (mpage_any ge ph tg tx rt pg li A n c li w2).mono ?_); rintro e w3 ⟨rfl, hB3⟩; rw [g6]; (have HR3 := Aside0.mk (below_then HR2.out.1 HR2.out.1.size hB3)); clear hB3)))
                go_ret
                exact ⟨ret_bool hv.out.symm, HR2.out.1⟩
              · have f6 := ne0 li 0 h6
                by_cases h7 : 2 ≤ li ∧ li < pg
                · have g6 : pageB pg li = true := decide_eq_true h7
                  have hv := Aside0.mk (show mrightB ge ph tg tx rt pg li n = true from decide_eq_true (by refine ⟨h0, ?_⟩; omega))
                  clear h0 h1 h2 h3 h4 h5 h6 h7
                  go_enter Try.func58, Try.ntmps58
                  go_wp2_with (first | (go_at_call 82; refine (mphase_any ge ph tg tx rt pg li A n c _ hn).mono ?_; rintro e w1 ⟨rfl, hB1⟩; rw [g0]; (have HR1 := Aside0.mk (And.intro (below_then HB.out (by simp) hB1) ((hB1.block w.heap.size (by simp)).trans hr.out))); clear hB1; obtain ⟨c0, c1, c2, c3, c4, c5, c6, c7⟩ := row8_cells HR1.out.2) | (go_at_call 83; first | ((with_reducible refine (mpage_any ge ph tg tx rt pg li A n c rt w1).mono ?_); rintro e w2 ⟨rfl, hB2⟩; rw [g5]; (have HR2 := Aside0.mk (And.intro (below_then HR1.out.1 HR1.out.1.size hB2) ((hB2.block w.heap.size (Array.getElem?_eq_some_iff.1 HR1.out.2).1).trans HR1.out.2))); clear hB2 c0 c1 c2 c3 c4 c5 c6 c7; obtain ⟨c0, c1, c2, c3, c4, c5, c6, c7⟩ := row8_cells HR2.out.2) | ((with_reducible refine (mpage_any ge ph tg tx rt pg li A n c li w2).mono ?_); rintro e w3 ⟨rfl, hB3⟩; rw [g6]; (have HR3 := Aside0.mk (below_then HR2.out.1 HR2.out.1.size hB3)); clear hB3)))
                  go_ret
                  exact ⟨ret_bool hv.out.symm, HR3.out⟩
                · have g6 : pageB pg li = false := decide_eq_false h7
                  have hv := Aside0.mk (show mrightB ge ph tg tx rt pg li n = false from decide_eq_false (by rintro ⟨k0, k⟩; first | exact h0 k0 | omega))
                  clear h0 h1 h2 h3 h4 h5 h6 h7
                  go_enter Try.func58, Try.ntmps58
                  go_wp2_with (first | (go_at_call 82; refine (mphase_any ge ph tg tx rt pg li A n c _ hn).mono ?_; rintro e w1 ⟨rfl, hB1⟩; rw [g0]; (have HR1 := Aside0.mk (And.intro (below_then HB.out (by simp) hB1) ((hB1.block w.heap.size (by simp)).trans hr.out))); clear hB1; obtain ⟨c0, c1, c2, c3, c4, c5, c6, c7⟩ := row8_cells HR1.out.2) | (go_at_call 83; first | ((with_reducible refine (mpage_any ge ph tg tx rt pg li A n c rt w1).mono ?_); rintro e w2 ⟨rfl, hB2⟩; rw [g5]; (have HR2 := Aside0.mk (And.intro (below_then HR1.out.1 HR1.out.1.size hB2) ((hB2.block w.heap.size (Array.getElem?_eq_some_iff.1 HR1.out.2).1).trans HR1.out.2))); clear hB2 c0 c1 c2 c3 c4 c5 c6 c7; obtain ⟨c0, c1, c2, c3, c4, c5, c6, c7⟩ := row8_cells HR2.out.2) | ((with_reducible refine (mpage_any ge ph tg tx rt pg li A n c li w2).mono ?_); rintro e w3 ⟨rfl, hB3⟩; rw [g6]; (have HR3 := Aside0.mk (below_then HR2.out.1 HR2.out.1.size hB3)); clear hB3)))
                  go_ret
                  exact ⟨ret_bool hv.out.symm, HR3.out⟩
            · have g5 : pageB pg rt = false := decide_eq_false h5
              have hv := Aside0.mk (show mrightB ge ph tg tx rt pg li n = false from decide_eq_false (by rintro ⟨k0, k⟩; first | exact h0 k0 | omega))
              clear h0 h1 h2 h3 h4 h5
              go_enter Try.func58, Try.ntmps58
              go_wp2_with (first | (go_at_call 82; refine (mphase_any ge ph tg tx rt pg li A n c _ hn).mono ?_; rintro e w1 ⟨rfl, hB1⟩; rw [g0]; (have HR1 := Aside0.mk (And.intro (below_then HB.out (by simp) hB1) ((hB1.block w.heap.size (by simp)).trans hr.out))); clear hB1; obtain ⟨c0, c1, c2, c3, c4, c5, c6, c7⟩ := row8_cells HR1.out.2) | (go_at_call 83; first | ((with_reducible refine (mpage_any ge ph tg tx rt pg li A n c rt w1).mono ?_); rintro e w2 ⟨rfl, hB2⟩; rw [g5]; (have HR2 := Aside0.mk (And.intro (below_then HR1.out.1 HR1.out.1.size hB2) ((hB2.block w.heap.size (Array.getElem?_eq_some_iff.1 HR1.out.2).1).trans HR1.out.2))); clear hB2 c0 c1 c2 c3 c4 c5 c6 c7; obtain ⟨c0, c1, c2, c3, c4, c5, c6, c7⟩ := row8_cells HR2.out.2) | ((with_reducible refine (mpage_any ge ph tg tx rt pg li A n c li w2).mono ?_); rintro e w3 ⟨rfl, hB3⟩; rw [g6]; (have HR3 := Aside0.mk (below_then HR2.out.1 HR2.out.1.size hB3)); clear hB3)))
              go_ret
              exact ⟨ret_bool hv.out.symm, HR2.out.1⟩
          · have f4 : decide (pg ≤ 16384) = false := decide_eq_false h4
            have hv := Aside0.mk (show mrightB ge ph tg tx rt pg li n = false from decide_eq_false (by rintro ⟨k0, k⟩; first | exact h0 k0 | omega))
            clear h0 h1 h2 h3 h4
            go_enter Try.func58, Try.ntmps58
            go_wp2_with (first | (go_at_call 82; refine (mphase_any ge ph tg tx rt pg li A n c _ hn).mono ?_; rintro e w1 ⟨rfl, hB1⟩; rw [g0]; (have HR1 := Aside0.mk (And.intro (below_then HB.out (by simp) hB1) ((hB1.block w.heap.size (by simp)).trans hr.out))); clear hB1; obtain ⟨c0, c1, c2, c3, c4, c5, c6, c7⟩ := row8_cells HR1.out.2) | (go_at_call 83; first | ((with_reducible refine (mpage_any ge ph tg tx rt pg li A n c rt w1).mono ?_); rintro e w2 ⟨rfl, hB2⟩; rw [g5]; (have HR2 := Aside0.mk (And.intro (below_then HR1.out.1 HR1.out.1.size hB2) ((hB2.block w.heap.size (Array.getElem?_eq_some_iff.1 HR1.out.2).1).trans HR1.out.2))); clear hB2 c0 c1 c2 c3 c4 c5 c6 c7; obtain ⟨c0, c1, c2, c3, c4, c5, c6, c7⟩ := row8_cells HR2.out.2) | ((with_reducible refine (mpage_any ge ph tg tx rt pg li A n c li w2).mono ?_); rintro e w3 ⟨rfl, hB3⟩; rw [g6]; (have HR3 := Aside0.mk (below_then HR2.out.1 HR2.out.1.size hB3)); clear hB3)))
            go_ret
            exact ⟨ret_bool hv.out.symm, HR1.out.1⟩
        · have f3 : decide (3 ≤ pg) = false := decide_eq_false h3
          have hv := Aside0.mk (show mrightB ge ph tg tx rt pg li n = false from decide_eq_false (by rintro ⟨k0, k⟩; first | exact h0 k0 | omega))
          clear h0 h1 h2 h3
          go_enter Try.func58, Try.ntmps58
          go_wp2_with (first | (go_at_call 82; refine (mphase_any ge ph tg tx rt pg li A n c _ hn).mono ?_; rintro e w1 ⟨rfl, hB1⟩; rw [g0]; (have HR1 := Aside0.mk (And.intro (below_then HB.out (by simp) hB1) ((hB1.block w.heap.size (by simp)).trans hr.out))); clear hB1; obtain ⟨c0, c1, c2, c3, c4, c5, c6, c7⟩ := row8_cells HR1.out.2) | (go_at_call 83; first | ((with_reducible refine (mpage_any ge ph tg tx rt pg li A n c rt w1).mono ?_); rintro e w2 ⟨rfl, hB2⟩; rw [g5]; (have HR2 := Aside0.mk (And.intro (below_then HR1.out.1 HR1.out.1.size hB2) ((hB2.block w.heap.size (Array.getElem?_eq_some_iff.1 HR1.out.2).1).trans HR1.out.2))); clear hB2 c0 c1 c2 c3 c4 c5 c6 c7; obtain ⟨c0, c1, c2, c3, c4, c5, c6, c7⟩ := row8_cells HR2.out.2) | ((with_reducible refine (mpage_any ge ph tg tx rt pg li A n c li w2).mono ?_); rintro e w3 ⟨rfl, hB3⟩; rw [g6]; (have HR3 := Aside0.mk (below_then HR2.out.1 HR2.out.1.size hB3)); clear hB3)))
          go_ret
          exact ⟨ret_bool hv.out.symm, HR1.out.1⟩
      · have f2 : decide (tx ≤ 2147483647) = false := decide_eq_false h2
        have hv := Aside0.mk (show mrightB ge ph tg tx rt pg li n = false from decide_eq_false (by rintro ⟨k0, k⟩; first | exact h0 k0 | omega))
        clear h0 h1 h2
        go_enter Try.func58, Try.ntmps58
        go_wp2_with (first | (go_at_call 82; refine (mphase_any ge ph tg tx rt pg li A n c _ hn).mono ?_; rintro e w1 ⟨rfl, hB1⟩; rw [g0]; (have HR1 := Aside0.mk (And.intro (below_then HB.out (by simp) hB1) ((hB1.block w.heap.size (by simp)).trans hr.out))); clear hB1; obtain ⟨c0, c1, c2, c3, c4, c5, c6, c7⟩ := row8_cells HR1.out.2) | (go_at_call 83; first | ((with_reducible refine (mpage_any ge ph tg tx rt pg li A n c rt w1).mono ?_); rintro e w2 ⟨rfl, hB2⟩; rw [g5]; (have HR2 := Aside0.mk (And.intro (below_then HR1.out.1 HR1.out.1.size hB2) ((hB2.block w.heap.size (Array.getElem?_eq_some_iff.1 HR1.out.2).1).trans HR1.out.2))); clear hB2 c0 c1 c2 c3 c4 c5 c6 c7; obtain ⟨c0, c1, c2, c3, c4, c5, c6, c7⟩ := row8_cells HR2.out.2) | ((with_reducible refine (mpage_any ge ph tg tx rt pg li A n c li w2).mono ?_); rintro e w3 ⟨rfl, hB3⟩; rw [g6]; (have HR3 := Aside0.mk (below_then HR2.out.1 HR2.out.1.size hB3)); clear hB3)))
        go_ret
        exact ⟨ret_bool hv.out.symm, HR1.out.1⟩
    · have f1 : decide (1 ≤ tx) = false := decide_eq_false h1
      have hv := Aside0.mk (show mrightB ge ph tg tx rt pg li n = false from decide_eq_false (by rintro ⟨k0, k⟩; first | exact h0 k0 | omega))
      clear h0 h1
      go_enter Try.func58, Try.ntmps58
      go_wp2_with (first | (go_at_call 82; refine (mphase_any ge ph tg tx rt pg li A n c _ hn).mono ?_; rintro e w1 ⟨rfl, hB1⟩; rw [g0]; (have HR1 := Aside0.mk (And.intro (below_then HB.out (by simp) hB1) ((hB1.block w.heap.size (by simp)).trans hr.out))); clear hB1; obtain ⟨c0, c1, c2, c3, c4, c5, c6, c7⟩ := row8_cells HR1.out.2) | (go_at_call 83; first | ((with_reducible refine (mpage_any ge ph tg tx rt pg li A n c rt w1).mono ?_); rintro e w2 ⟨rfl, hB2⟩; rw [g5]; (have HR2 := Aside0.mk (And.intro (below_then HR1.out.1 HR1.out.1.size hB2) ((hB2.block w.heap.size (Array.getElem?_eq_some_iff.1 HR1.out.2).1).trans HR1.out.2))); clear hB2 c0 c1 c2 c3 c4 c5 c6 c7; obtain ⟨c0, c1, c2, c3, c4, c5, c6, c7⟩ := row8_cells HR2.out.2) | ((with_reducible refine (mpage_any ge ph tg tx rt pg li A n c li w2).mono ?_); rintro e w3 ⟨rfl, hB3⟩; rw [g6]; (have HR3 := Aside0.mk (below_then HR2.out.1 HR2.out.1.size hB3)); clear hB3)))
      go_ret
      exact ⟨ret_bool hv.out.symm, HR1.out.1⟩
  · have g0 := Bool.eq_false_iff.mpr h0
    have hv := Aside0.mk (show mrightB ge ph tg tx rt pg li n = false from decide_eq_false (by rintro ⟨k0, k⟩; first | exact h0 k0 | omega))
    clear h0
    go_enter Try.func58, Try.ntmps58
    go_wp2_with (first | (go_at_call 82; refine (mphase_any ge ph tg tx rt pg li A n c _ hn).mono ?_; rintro e w1 ⟨rfl, hB1⟩; rw [g0]; (have HR1 := Aside0.mk (And.intro (below_then HB.out (by simp) hB1) ((hB1.block w.heap.size (by simp)).trans hr.out))); clear hB1; obtain ⟨c0, c1, c2, c3, c4, c5, c6, c7⟩ := row8_cells HR1.out.2) | (go_at_call 83; first | ((with_reducible refine (mpage_any ge ph tg tx rt pg li A n c rt w1).mono ?_); rintro e w2 ⟨rfl, hB2⟩; rw [g5]; (have HR2 := Aside0.mk (And.intro (below_then HR1.out.1 HR1.out.1.size hB2) ((hB2.block w.heap.size (Array.getElem?_eq_some_iff.1 HR1.out.2).1).trans HR1.out.2))); clear hB2 c0 c1 c2 c3 c4 c5 c6 c7; obtain ⟨c0, c1, c2, c3, c4, c5, c6, c7⟩ := row8_cells HR2.out.2) | ((with_reducible refine (mpage_any ge ph tg tx rt pg li A n c li w2).mono ?_); rintro e w3 ⟨rfl, hB3⟩; rw [g6]; (have HR3 := Aside0.mk (below_then HR2.out.1 HR2.out.1.size hB3)); clear hB3)))
    go_ret
    exact ⟨ret_bool hv.out.symm, HR1.out.1⟩
end Go.Proofs.Ythhalmjapiempaa

set_option linter.unusedVariables false
set_option linter.unusedSimpArgs false
namespace Go.Proofs.Ythhalmjapiempaa
open Go.RowKit

set_option maxHeartbeats 4000000 in
set_option maxRecDepth 100000 in
theorem numbers_any (g : Nat) (w : World) :
    Calls Try.prog 64 #[.pointer (some ⟨g, 0, none⟩)] w fun e w' => e = .returned (.agg #[.pointer (some ⟨g, 3, none⟩), .pointer (some ⟨g, 4, none⟩), .pointer (some ⟨g, 5, none⟩), .pointer (some ⟨g, 6, none⟩)]) ∧ Below w.heap.size w w' := by
  have hL : (loadVar 120 ⟨w.heap.size, 0, none⟩).run Try.prog (w.alloc (.cells #[.pointer (some ⟨g, 3, none⟩), .pointer (some ⟨g, 4, none⟩), .pointer (some ⟨g, 5, none⟩), .pointer (some ⟨g, 6, none⟩)] 120)).drew = .ok (.agg #[.pointer (some ⟨g, 3, none⟩), .pointer (some ⟨g, 4, none⟩), .pointer (some ⟨g, 5, none⟩), .pointer (some ⟨g, 6, none⟩)]) (w.alloc (.cells #[.pointer (some ⟨g, 3, none⟩), .pointer (some ⟨g, 4, none⟩), .pointer (some ⟨g, 5, none⟩), .pointer (some ⟨g, 6, none⟩)] 120)).drew :=
    run_loadVar_row _ w.heap.size 120 120 _ (0, 0) _ (heap_alloc_new w _) Try.underlying120 rfl (by kernel_rfl)
  go_enter Try.func64, Try.ntmps64
  go_wp2
  go_region
  go_wp2
  exact bodyPost_ret (by simp [results, Try.results64, asAddr, hL]) rfl ⟨rfl, below_drew ((Below.refl _ _).alloc (Nat.le_refl _) _)⟩

set_option maxHeartbeats 4000000 in
set_option maxRecDepth 100000 in
theorem heads_any (g : Nat) (w : World) :
    Calls Try.prog 65 #[.pointer (some ⟨g, 0, none⟩)] w fun e w' => e = .returned (.agg #[.pointer (some ⟨g, 0, none⟩), .pointer (some ⟨g, 1, none⟩), .pointer (some ⟨g, 2, none⟩)]) ∧ Below w.heap.size w w' := by
  have hL : (loadVar 122 ⟨w.heap.size, 0, none⟩).run Try.prog (w.alloc (.cells #[.pointer (some ⟨g, 0, none⟩), .pointer (some ⟨g, 1, none⟩), .pointer (some ⟨g, 2, none⟩)] 122)).drew = .ok (.agg #[.pointer (some ⟨g, 0, none⟩), .pointer (some ⟨g, 1, none⟩), .pointer (some ⟨g, 2, none⟩)]) (w.alloc (.cells #[.pointer (some ⟨g, 0, none⟩), .pointer (some ⟨g, 1, none⟩), .pointer (some ⟨g, 2, none⟩)] 122)).drew :=
    run_loadVar_row _ w.heap.size 122 122 _ (0, 0) _ (heap_alloc_new w _) Try.underlying122 rfl (by kernel_rfl)
  go_enter Try.func65, Try.ntmps65
  go_wp2
  go_region
  go_wp2
  exact bodyPost_ret (by simp [results, Try.results65, asAddr, hL]) rfl ⟨rfl, below_drew ((Below.refl _ _).alloc (Nat.le_refl _) _)⟩

theorem nix0 (g : Nat) (W : World) : (Instr.index 120 (.agg #[.pointer (some ⟨g, 3, none⟩), .pointer (some ⟨g, 4, none⟩), .pointer (some ⟨g, 5, none⟩), .pointer (some ⟨g, 6, none⟩)]) (.int .i64 0)).run Try.prog W = .ok (.pointer (some ⟨g, 3, none⟩)) W := by kernel_rfl
theorem nix1 (g : Nat) (W : World) : (Instr.index 120 (.agg #[.pointer (some ⟨g, 3, none⟩), .pointer (some ⟨g, 4, none⟩), .pointer (some ⟨g, 5, none⟩), .pointer (some ⟨g, 6, none⟩)]) (.int .i64 1)).run Try.prog W = .ok (.pointer (some ⟨g, 4, none⟩)) W := by kernel_rfl
theorem nix2 (g : Nat) (W : World) : (Instr.index 120 (.agg #[.pointer (some ⟨g, 3, none⟩), .pointer (some ⟨g, 4, none⟩), .pointer (some ⟨g, 5, none⟩), .pointer (some ⟨g, 6, none⟩)]) (.int .i64 2)).run Try.prog W = .ok (.pointer (some ⟨g, 5, none⟩)) W := by kernel_rfl
theorem nix3 (g : Nat) (W : World) : (Instr.index 120 (.agg #[.pointer (some ⟨g, 3, none⟩), .pointer (some ⟨g, 4, none⟩), .pointer (some ⟨g, 5, none⟩), .pointer (some ⟨g, 6, none⟩)]) (.int .i64 3)).run Try.prog W = .ok (.pointer (some ⟨g, 6, none⟩)) W := by kernel_rfl
theorem hix0 (g : Nat) (W : World) : (Instr.index 122 (.agg #[.pointer (some ⟨g, 0, none⟩), .pointer (some ⟨g, 1, none⟩), .pointer (some ⟨g, 2, none⟩)]) (.int .i64 0)).run Try.prog W = .ok (.pointer (some ⟨g, 0, none⟩)) W := by kernel_rfl
theorem hix1 (g : Nat) (W : World) : (Instr.index 122 (.agg #[.pointer (some ⟨g, 0, none⟩), .pointer (some ⟨g, 1, none⟩), .pointer (some ⟨g, 2, none⟩)]) (.int .i64 1)).run Try.prog W = .ok (.pointer (some ⟨g, 1, none⟩)) W := by kernel_rfl
theorem hix2 (g : Nat) (W : World) : (Instr.index 122 (.agg #[.pointer (some ⟨g, 0, none⟩), .pointer (some ⟨g, 1, none⟩), .pointer (some ⟨g, 2, none⟩)]) (.int .i64 2)).run Try.prog W = .ok (.pointer (some ⟨g, 2, none⟩)) W := by kernel_rfl
def msameB (ge ph tg tx rt pg li : Int) (xs : List UInt8) (ge' ph' tg' tx' rt' pg' li' : Int) (ys : List UInt8) : Bool := decide (tx = tx' ∧ rt = rt' ∧ pg = pg' ∧ li = li' ∧ ge = ge' ∧ ph = ph' ∧ tg = tg' ∧ xs = ys)
/-- Two metas, and a copy of each, in memory. -/
structure MM (w : World) (N X Y : Nat) (u v : Array Value) (W : World) : Prop where
  r0 : W.heap[N]? = some (.cells u 36)
  r1 : W.heap[N + 1]? = some (.cells v 36)
  r2 : W.heap[X]? = some (.cells u 36)
  r3 : W.heap[Y]? = some (.cells v 36)
  bel : Below w.heap.size w W
theorem MM.step {w W W1 : World} {N X Y : Nat} {u v : Array Value} (h : MM w N X Y u v W) (hB : Below W.heap.size W W1) : MM w N X Y u v W1 :=
  ⟨(hB.block _ (Array.getElem?_eq_some_iff.1 h.r0).1).trans h.r0, (hB.block _ (Array.getElem?_eq_some_iff.1 h.r1).1).trans h.r1, (hB.block _ (Array.getElem?_eq_some_iff.1 h.r2).1).trans h.r2, (hB.block _ (Array.getElem?_eq_some_iff.1 h.r3).1).trans h.r3, below_then h.bel h.bel.size hB⟩

theorem mm_a (w : World) (u v : Array Value) : MM w w.heap.size (w.heap.size + 2) (w.heap.size + 3) u v (((((w.alloc (.cells u 36)).alloc (.cells v 36)).alloc (.cells u 36)).alloc (.cells v 36)).drew) :=
  ⟨by have := heap_alloc_new w (.cells u 36); (try simp only [World.size_alloc] at this); exact (Below.heap_alloc _ _ _ (by simp <;> omega)).trans ((Below.heap_alloc _ _ _ (by simp <;> omega)).trans ((Below.heap_alloc _ _ _ (by simp <;> omega)).trans (this))), by have := heap_alloc_new (w.alloc (.cells u 36)) (.cells v 36); (try simp only [World.size_alloc] at this); exact (Below.heap_alloc _ _ _ (by simp <;> omega)).trans ((Below.heap_alloc _ _ _ (by simp <;> omega)).trans (this)), by have := heap_alloc_new ((w.alloc (.cells u 36)).alloc (.cells v 36)) (.cells u 36); (try simp only [World.size_alloc] at this); exact (Below.heap_alloc _ _ _ (by simp <;> omega)).trans (this), by have := heap_alloc_new (((w.alloc (.cells u 36)).alloc (.cells v 36)).alloc (.cells u 36)) (.cells v 36); (try simp only [World.size_alloc] at this); exact this, below_drew ((((((Below.refl w.heap.size w).alloc (Nat.le_refl _) _).alloc (by simp) _).alloc (by simp <;> omega) _).alloc (by simp <;> omega) _))⟩

theorem mm_b (w : World) (u v : Array Value) : MM w w.heap.size (w.heap.size + 3) (w.heap.size + 2) u v (((((w.alloc (.cells u 36)).alloc (.cells v 36)).alloc (.cells v 36)).alloc (.cells u 36)).drew) :=
  ⟨by have := heap_alloc_new w (.cells u 36); (try simp only [World.size_alloc] at this); exact (Below.heap_alloc _ _ _ (by simp <;> omega)).trans ((Below.heap_alloc _ _ _ (by simp <;> omega)).trans ((Below.heap_alloc _ _ _ (by simp <;> omega)).trans (this))), by have := heap_alloc_new (w.alloc (.cells u 36)) (.cells v 36); (try simp only [World.size_alloc] at this); exact (Below.heap_alloc _ _ _ (by simp <;> omega)).trans ((Below.heap_alloc _ _ _ (by simp <;> omega)).trans (this)), by have := heap_alloc_new (((w.alloc (.cells u 36)).alloc (.cells v 36)).alloc (.cells v 36)) (.cells u 36); (try simp only [World.size_alloc] at this); exact this, by have := heap_alloc_new ((w.alloc (.cells u 36)).alloc (.cells v 36)) (.cells v 36); (try simp only [World.size_alloc] at this); exact (Below.heap_alloc _ _ _ (by simp <;> omega)).trans (this), below_drew ((((((Below.refl w.heap.size w).alloc (Nat.le_refl _) _).alloc (by simp) _).alloc (by simp <;> omega) _).alloc (by simp <;> omega) _))⟩

set_option maxHeartbeats 4000000 in
set_option maxRecDepth 100000 in
theorem msame_any (ge ph tg tx rt pg li : Int) (A : Option Addr) (n c : Nat) (xs : List UInt8) (ge' ph' tg' tx' rt' pg' li' : Int) (A' : Option Addr) (n' c' : Nat) (ys : List UInt8) (w : World) (hx : Bs w A n c xs) (hy : Bs w A' n' c' ys) :
    Calls Try.prog 41 #[.agg #[.int .i64 ge, .int .i64 ph, .int .i64 tg, .int .i64 tx, .int .i64 rt, .int .i64 pg, .int .i64 li, .slice A n c], .agg #[.int .i64 ge', .int .i64 ph', .int .i64 tg', .int .i64 tx', .int .i64 rt', .int .i64 pg', .int .i64 li', .slice A' n' c']] w fun e w' => e = .returned (.bool (msameB ge ph tg tx rt pg li xs ge' ph' tg' tx' rt' pg' li' ys)) ∧ Below w.heap.size w w' := by
  have HX := Aside0.mk (And.intro hx hy)
  clear hx hy
  go_enter Try.func41, Try.ntmps41
  go_upto_region 1 with fail
  go_cut [5, 6] (fun v5 v6 wx => ∃ X Y, v5 = .pointer (some ⟨X, 0, none⟩) ∧ v6 = .pointer (some ⟨Y, 0, none⟩) ∧ Aside0 (MM w w.heap.size X Y #[.int .i64 ge, .int .i64 ph, .int .i64 tg, .int .i64 tx, .int .i64 rt, .int .i64 pg, .int .i64 li, .slice A n c] #[.int .i64 ge', .int .i64 ph', .int .i64 tg', .int .i64 tx', .int .i64 rt', .int .i64 pg', .int .i64 li', .slice A' n' c'] wx))
  case first =>
    go_region
    all_goals (go_wp2_with fail)
    all_goals go_meet
    all_goals (first | exact ⟨w.heap.size + 2, w.heap.size + 3, rfl, rfl, ⟨mm_a w _ _⟩⟩ | exact ⟨w.heap.size + 3, w.heap.size + 2, rfl, rfl, ⟨mm_b w _ _⟩⟩)
  case rest =>
    obtain ⟨X, Y, rfl, rfl, HM⟩ := hcut
    go_wp2_with (go_at_call 64; refine (numbers_any X _).mono ?_; rintro e w1 ⟨rfl, hB1⟩)
    have HM1 := Aside0.mk (HM.out.step hB1)
    clear HM hB1
    go_loopg [14] 4 (fun k v wr => ∃ j : Nat, Aside (k + j = 4) ∧ v = .int .i64 (j : Int) ∧ Aside0 (MM w w.heap.size X Y #[.int .i64 ge, .int .i64 ph, .int .i64 tg, .int .i64 tx, .int .i64 rt, .int .i64 pg, .int .i64 li, .slice A n c] #[.int .i64 ge', .int .i64 ph', .int .i64 tg', .int .i64 tx', .int .i64 rt', .int .i64 pg', .int .i64 li', .slice A' n' c'] wr) ∧ Aside0 ((0 < j → tx = tx') ∧ (1 < j → rt = rt') ∧ (2 < j → pg = pg') ∧ (3 < j → li = li')))
    case atStart => exact ⟨0, rfl, rfl, HM1, ⟨fun h => absurd h (by decide), fun h => absurd h (by decide), fun h => absurd h (by decide), fun h => absurd h (by decide)⟩⟩
    case round =>
      obtain ⟨j, hk, rfl, hI, HP4⟩ := hrel
      have hjb : j ≤ 4 := by have := hk.out; omega
      rcases (show j = 0 ∨ j = 1 ∨ j = 2 ∨ j = 3 ∨ j = 4 by omega) with rfl | rfl | rfl | rfl | rfl
      · obtain ⟨z0, z1, z2, z3, z4, z5, z6, z7⟩ := row8_cells hI.out.r2
        obtain ⟨y0, y1, y2, y3, y4, y5, y6, y7⟩ := row8_cells hI.out.r3
        have ix1 := nix0 X
        have ix2 := nix0 Y
        by_cases he : tx = tx'
        · have f1 : (tx != tx') = false := by simp [he]
          have HE := Aside0.mk he
          clear he
          go_upto_region 5 with fail
          refine wp_region_ext (by kernel_rfl) (by kernel_rfl) ?_
          have xz := cell_ext z3
          have xy := cell_ext y3
          repeat (go_big_quiet_step ((go_at_call 64; exact Calls.ext_of (numbers_any Y _))))
          refine wpQuiet_nil ?_
          rintro w' ⟨kx, rfl⟩
          have HJ := Aside0.mk (hI.out.step kx.bel)
          clear hI z0 z1 z2 z3 z4 z5 z6 z7 y0 y1 y2 y3 y4 y5 y6 y7 xz xy
          go_wp2_with fail
          go_roundg (4 - (0 + 1))
          case measure => have := hk.out; omega
          case rel => exact ⟨0 + 1, rfl, by go_num, HJ, ⟨fun _ => HE.out, fun h => absurd h (by decide), fun h => absurd h (by decide), fun h => absurd h (by decide)⟩⟩
        · have f1 : (tx != tx') = true := by simp [he]
          have hv := Aside0.mk (show msameB ge ph tg tx rt pg li xs ge' ph' tg' tx' rt' pg' li' ys = false from decide_eq_false (fun k => he (by obtain ⟨k0, k1, k2, k3, k4, k5, k6, k7⟩ := k; assumption)))
          clear he
          go_upto_region 5 with fail
          refine wp_region_ext (by kernel_rfl) (by kernel_rfl) ?_
          have xz := cell_ext z3
          have xy := cell_ext y3
          repeat (go_big_quiet_step ((go_at_call 64; exact Calls.ext_of (numbers_any Y _))))
          refine wpQuiet_nil ?_
          rintro w' ⟨kx, rfl⟩
          have HJ := Aside0.mk (hI.out.step kx.bel)
          clear hI z0 z1 z2 z3 z4 z5 z6 z7 y0 y1 y2 y3 y4 y5 y6 y7 xz xy
          go_wp2_with fail
          go_ret
          exact ⟨ret_bool hv.out.symm, HJ.out.bel⟩
      · obtain ⟨z0, z1, z2, z3, z4, z5, z6, z7⟩ := row8_cells hI.out.r2
        obtain ⟨y0, y1, y2, y3, y4, y5, y6, y7⟩ := row8_cells hI.out.r3
        have ix1 := nix1 X
        have ix2 := nix1 Y
        by_cases he : rt = rt'
        · have f1 : (rt != rt') = false := by simp [he]
          have HE := Aside0.mk he
          clear he
          go_upto_region 5 with fail
          refine wp_region_ext (by kernel_rfl) (by kernel_rfl) ?_
          have xz := cell_ext z4
          have xy := cell_ext y4
          repeat (go_big_quiet_step ((go_at_call 64; exact Calls.ext_of (numbers_any Y _))))
          refine wpQuiet_nil ?_
          rintro w' ⟨kx, rfl⟩
          have HJ := Aside0.mk (hI.out.step kx.bel)
          clear hI z0 z1 z2 z3 z4 z5 z6 z7 y0 y1 y2 y3 y4 y5 y6 y7 xz xy
          go_wp2_with fail
          go_roundg (4 - (1 + 1))
          case measure => have := hk.out; omega
          case rel => exact ⟨1 + 1, rfl, by go_num, HJ, ⟨fun _ => HP4.out.1 (by decide), fun _ => HE.out, fun h => absurd h (by decide), fun h => absurd h (by decide)⟩⟩
        · have f1 : (rt != rt') = true := by simp [he]
          have hv := Aside0.mk (show msameB ge ph tg tx rt pg li xs ge' ph' tg' tx' rt' pg' li' ys = false from decide_eq_false (fun k => he (by obtain ⟨k0, k1, k2, k3, k4, k5, k6, k7⟩ := k; assumption)))
          clear he
          go_upto_region 5 with fail
          refine wp_region_ext (by kernel_rfl) (by kernel_rfl) ?_
          have xz := cell_ext z4
          have xy := cell_ext y4
          repeat (go_big_quiet_step ((go_at_call 64; exact Calls.ext_of (numbers_any Y _))))
          refine wpQuiet_nil ?_
          rintro w' ⟨kx, rfl⟩
          have HJ := Aside0.mk (hI.out.step kx.bel)
          clear hI z0 z1 z2 z3 z4 z5 z6 z7 y0 y1 y2 y3 y4 y5 y6 y7 xz xy
          go_wp2_with fail
          go_ret
          exact ⟨ret_bool hv.out.symm, HJ.out.bel⟩
      · obtain ⟨z0, z1, z2, z3, z4, z5, z6, z7⟩ := row8_cells hI.out.r2
        obtain ⟨y0, y1, y2, y3, y4, y5, y6, y7⟩ := row8_cells hI.out.r3
        have ix1 := nix2 X
        have ix2 := nix2 Y
        by_cases he : pg = pg'
        · have f1 : (pg != pg') = false := by simp [he]
          have HE := Aside0.mk he
          clear he
          go_upto_region 5 with fail
          refine wp_region_ext (by kernel_rfl) (by kernel_rfl) ?_
          have xz := cell_ext z5
          have xy := cell_ext y5
          repeat (go_big_quiet_step ((go_at_call 64; exact Calls.ext_of (numbers_any Y _))))
          refine wpQuiet_nil ?_
          rintro w' ⟨kx, rfl⟩
          have HJ := Aside0.mk (hI.out.step kx.bel)
          clear hI z0 z1 z2 z3 z4 z5 z6 z7 y0 y1 y2 y3 y4 y5 y6 y7 xz xy
          go_wp2_with fail
          go_roundg (4 - (2 + 1))
          case measure => have := hk.out; omega
          case rel => exact ⟨2 + 1, rfl, by go_num, HJ, ⟨fun _ => HP4.out.1 (by decide), fun _ => HP4.out.2.1 (by decide), fun _ => HE.out, fun h => absurd h (by decide)⟩⟩
        · have f1 : (pg != pg') = true := by simp [he]
          have hv := Aside0.mk (show msameB ge ph tg tx rt pg li xs ge' ph' tg' tx' rt' pg' li' ys = false from decide_eq_false (fun k => he (by obtain ⟨k0, k1, k2, k3, k4, k5, k6, k7⟩ := k; assumption)))
          clear he
          go_upto_region 5 with fail
          refine wp_region_ext (by kernel_rfl) (by kernel_rfl) ?_
          have xz := cell_ext z5
          have xy := cell_ext y5
          repeat (go_big_quiet_step ((go_at_call 64; exact Calls.ext_of (numbers_any Y _))))
          refine wpQuiet_nil ?_
          rintro w' ⟨kx, rfl⟩
          have HJ := Aside0.mk (hI.out.step kx.bel)
          clear hI z0 z1 z2 z3 z4 z5 z6 z7 y0 y1 y2 y3 y4 y5 y6 y7 xz xy
          go_wp2_with fail
          go_ret
          exact ⟨ret_bool hv.out.symm, HJ.out.bel⟩
      · obtain ⟨z0, z1, z2, z3, z4, z5, z6, z7⟩ := row8_cells hI.out.r2
        obtain ⟨y0, y1, y2, y3, y4, y5, y6, y7⟩ := row8_cells hI.out.r3
        have ix1 := nix3 X
        have ix2 := nix3 Y
        by_cases he : li = li'
        · have f1 : (li != li') = false := by simp [he]
          have HE := Aside0.mk he
          clear he
          go_upto_region 5 with fail
          refine wp_region_ext (by kernel_rfl) (by kernel_rfl) ?_
          have xz := cell_ext z6
          have xy := cell_ext y6
          repeat (go_big_quiet_step ((go_at_call 64; exact Calls.ext_of (numbers_any Y _))))
          refine wpQuiet_nil ?_
          rintro w' ⟨kx, rfl⟩
          have HJ := Aside0.mk (hI.out.step kx.bel)
          clear hI z0 z1 z2 z3 z4 z5 z6 z7 y0 y1 y2 y3 y4 y5 y6 y7 xz xy
          go_wp2_with fail
          go_roundg (4 - (3 + 1))
          case measure => have := hk.out; omega
          case rel => exact ⟨3 + 1, rfl, by go_num, HJ, ⟨fun _ => HP4.out.1 (by decide), fun _ => HP4.out.2.1 (by decide), fun _ => HP4.out.2.2.1 (by decide), fun _ => HE.out⟩⟩
        · have f1 : (li != li') = true := by simp [he]
          have hv := Aside0.mk (show msameB ge ph tg tx rt pg li xs ge' ph' tg' tx' rt' pg' li' ys = false from decide_eq_false (fun k => he (by obtain ⟨k0, k1, k2, k3, k4, k5, k6, k7⟩ := k; assumption)))
          clear he
          go_upto_region 5 with fail
          refine wp_region_ext (by kernel_rfl) (by kernel_rfl) ?_
          have xz := cell_ext z6
          have xy := cell_ext y6
          repeat (go_big_quiet_step ((go_at_call 64; exact Calls.ext_of (numbers_any Y _))))
          refine wpQuiet_nil ?_
          rintro w' ⟨kx, rfl⟩
          have HJ := Aside0.mk (hI.out.step kx.bel)
          clear hI z0 z1 z2 z3 z4 z5 z6 z7 y0 y1 y2 y3 y4 y5 y6 y7 xz xy
          go_wp2_with fail
          go_ret
          exact ⟨ret_bool hv.out.symm, HJ.out.bel⟩
      · go_wp2_with (go_at_call 65; refine (heads_any X _).mono ?_; rintro e w2 ⟨rfl, hB2⟩)
        have HM1 := Aside0.mk (hI.out.step hB2)
        clear hI hB2 hk hjb
        go_loopg [29] 3 (fun k v wr => ∃ j : Nat, Aside (k + j = 3) ∧ v = .int .i64 (j : Int) ∧ Aside0 (MM w w.heap.size X Y #[.int .i64 ge, .int .i64 ph, .int .i64 tg, .int .i64 tx, .int .i64 rt, .int .i64 pg, .int .i64 li, .slice A n c] #[.int .i64 ge', .int .i64 ph', .int .i64 tg', .int .i64 tx', .int .i64 rt', .int .i64 pg', .int .i64 li', .slice A' n' c'] wr) ∧ Aside0 ((0 < j → ge = ge') ∧ (1 < j → ph = ph') ∧ (2 < j → tg = tg')))
        case atStart => exact ⟨0, rfl, rfl, HM1, ⟨fun h => absurd h (by decide), fun h => absurd h (by decide), fun h => absurd h (by decide)⟩⟩
        case round =>
          obtain ⟨j, hk, rfl, hI, HP3⟩ := hrel
          have hjb : j ≤ 3 := by have := hk.out; omega
          rcases (show j = 0 ∨ j = 1 ∨ j = 2 ∨ j = 3 by omega) with rfl | rfl | rfl | rfl
          · obtain ⟨z0, z1, z2, z3, z4, z5, z6, z7⟩ := row8_cells hI.out.r2
            obtain ⟨y0, y1, y2, y3, y4, y5, y6, y7⟩ := row8_cells hI.out.r3
            have ix1 := hix0 X
            have ix2 := hix0 Y
            by_cases he : ge = ge'
            · have f1 : (ge != ge') = false := by simp [he]
              have HE := Aside0.mk he
              clear he
              go_upto_region 11 with fail
              refine wp_region_ext (by kernel_rfl) (by kernel_rfl) ?_
              have xz := cell_ext z0
              have xy := cell_ext y0
              repeat (go_big_quiet_step ((go_at_call 65; exact Calls.ext_of (heads_any Y _))))
              refine wpQuiet_nil ?_
              rintro w' ⟨kx, rfl⟩
              have HJ := Aside0.mk (hI.out.step kx.bel)
              clear hI z0 z1 z2 z3 z4 z5 z6 z7 y0 y1 y2 y3 y4 y5 y6 y7 xz xy
              go_wp2_with fail
              go_roundg (3 - (0 + 1))
              case measure => have := hk.out; omega
              case rel => exact ⟨0 + 1, rfl, by go_num, HJ, ⟨fun _ => HE.out, fun h => absurd h (by decide), fun h => absurd h (by decide)⟩⟩
            · have f1 : (ge != ge') = true := by simp [he]
              have hv := Aside0.mk (show msameB ge ph tg tx rt pg li xs ge' ph' tg' tx' rt' pg' li' ys = false from decide_eq_false (fun k => he (by obtain ⟨k0, k1, k2, k3, k4, k5, k6, k7⟩ := k; assumption)))
              clear he
              go_upto_region 11 with fail
              refine wp_region_ext (by kernel_rfl) (by kernel_rfl) ?_
              have xz := cell_ext z0
              have xy := cell_ext y0
              repeat (go_big_quiet_step ((go_at_call 65; exact Calls.ext_of (heads_any Y _))))
              refine wpQuiet_nil ?_
              rintro w' ⟨kx, rfl⟩
              have HJ := Aside0.mk (hI.out.step kx.bel)
              clear hI z0 z1 z2 z3 z4 z5 z6 z7 y0 y1 y2 y3 y4 y5 y6 y7 xz xy
              go_wp2_with fail
              go_ret
              exact ⟨ret_bool hv.out.symm, HJ.out.bel⟩
          · obtain ⟨z0, z1, z2, z3, z4, z5, z6, z7⟩ := row8_cells hI.out.r2
            obtain ⟨y0, y1, y2, y3, y4, y5, y6, y7⟩ := row8_cells hI.out.r3
            have ix1 := hix1 X
            have ix2 := hix1 Y
            by_cases he : ph = ph'
            · have f1 : (ph != ph') = false := by simp [he]
              have HE := Aside0.mk he
              clear he
              go_upto_region 11 with fail
              refine wp_region_ext (by kernel_rfl) (by kernel_rfl) ?_
              have xz := cell_ext z1
              have xy := cell_ext y1
              repeat (go_big_quiet_step ((go_at_call 65; exact Calls.ext_of (heads_any Y _))))
              refine wpQuiet_nil ?_
              rintro w' ⟨kx, rfl⟩
              have HJ := Aside0.mk (hI.out.step kx.bel)
              clear hI z0 z1 z2 z3 z4 z5 z6 z7 y0 y1 y2 y3 y4 y5 y6 y7 xz xy
              go_wp2_with fail
              go_roundg (3 - (1 + 1))
              case measure => have := hk.out; omega
              case rel => exact ⟨1 + 1, rfl, by go_num, HJ, ⟨fun _ => HP3.out.1 (by decide), fun _ => HE.out, fun h => absurd h (by decide)⟩⟩
            · have f1 : (ph != ph') = true := by simp [he]
              have hv := Aside0.mk (show msameB ge ph tg tx rt pg li xs ge' ph' tg' tx' rt' pg' li' ys = false from decide_eq_false (fun k => he (by obtain ⟨k0, k1, k2, k3, k4, k5, k6, k7⟩ := k; assumption)))
              clear he
              go_upto_region 11 with fail
              refine wp_region_ext (by kernel_rfl) (by kernel_rfl) ?_
              have xz := cell_ext z1
              have xy := cell_ext y1
              repeat (go_big_quiet_step ((go_at_call 65; exact Calls.ext_of (heads_any Y _))))
              refine wpQuiet_nil ?_
              rintro w' ⟨kx, rfl⟩
              have HJ := Aside0.mk (hI.out.step kx.bel)
              clear hI z0 z1 z2 z3 z4 z5 z6 z7 y0 y1 y2 y3 y4 y5 y6 y7 xz xy
              go_wp2_with fail
              go_ret
              exact ⟨ret_bool hv.out.symm, HJ.out.bel⟩
          · obtain ⟨z0, z1, z2, z3, z4, z5, z6, z7⟩ := row8_cells hI.out.r2
            obtain ⟨y0, y1, y2, y3, y4, y5, y6, y7⟩ := row8_cells hI.out.r3
            have ix1 := hix2 X
            have ix2 := hix2 Y
            by_cases he : tg = tg'
            · have f1 : (tg != tg') = false := by simp [he]
              have HE := Aside0.mk he
              clear he
              go_upto_region 11 with fail
              refine wp_region_ext (by kernel_rfl) (by kernel_rfl) ?_
              have xz := cell_ext z2
              have xy := cell_ext y2
              repeat (go_big_quiet_step ((go_at_call 65; exact Calls.ext_of (heads_any Y _))))
              refine wpQuiet_nil ?_
              rintro w' ⟨kx, rfl⟩
              have HJ := Aside0.mk (hI.out.step kx.bel)
              clear hI z0 z1 z2 z3 z4 z5 z6 z7 y0 y1 y2 y3 y4 y5 y6 y7 xz xy
              go_wp2_with fail
              go_roundg (3 - (2 + 1))
              case measure => have := hk.out; omega
              case rel => exact ⟨2 + 1, rfl, by go_num, HJ, ⟨fun _ => HP3.out.1 (by decide), fun _ => HP3.out.2.1 (by decide), fun _ => HE.out⟩⟩
            · have f1 : (tg != tg') = true := by simp [he]
              have hv := Aside0.mk (show msameB ge ph tg tx rt pg li xs ge' ph' tg' tx' rt' pg' li' ys = false from decide_eq_false (fun k => he (by obtain ⟨k0, k1, k2, k3, k4, k5, k6, k7⟩ := k; assumption)))
              clear he
              go_upto_region 11 with fail
              refine wp_region_ext (by kernel_rfl) (by kernel_rfl) ?_
              have xz := cell_ext z2
              have xy := cell_ext y2
              repeat (go_big_quiet_step ((go_at_call 65; exact Calls.ext_of (heads_any Y _))))
              refine wpQuiet_nil ?_
              rintro w' ⟨kx, rfl⟩
              have HJ := Aside0.mk (hI.out.step kx.bel)
              clear hI z0 z1 z2 z3 z4 z5 z6 z7 y0 y1 y2 y3 y4 y5 y6 y7 xz xy
              go_wp2_with fail
              go_ret
              exact ⟨ret_bool hv.out.symm, HJ.out.bel⟩
          · obtain ⟨u0, u1, u2, u3, u4', u5', u6', u7'⟩ := row8_cells hI.out.r0
            obtain ⟨v0, v1, v2, v3, v4, v5, v6, v7⟩ := row8_cells hI.out.r1
            have hv := Aside0.mk (show msameB ge ph tg tx rt pg li xs ge' ph' tg' tx' rt' pg' li' ys = (xs == ys) from by
              unfold msameB
              rw [Bool.eq_iff_iff, decide_eq_true_iff, beq_iff_eq]
              exact ⟨fun k => k.2.2.2.2.2.2.2, fun k => ⟨HP4.out.1 (by decide), HP4.out.2.1 (by decide), HP4.out.2.2.1 (by decide), HP4.out.2.2.2 (by decide), HP3.out.1 (by decide), HP3.out.2.1 (by decide), HP3.out.2.2 (by decide), k⟩⟩)
            go_wp2_with (go_at_call 37; refine (equal8_any A n c xs A' n' c' ys _ (HX.out.1.map fun a v h => (hI.out.bel.cell (World.block_lt_of_cell? w a h)).trans h) (HX.out.2.map fun a v h => (hI.out.bel.cell (World.block_lt_of_cell? w a h)).trans h)).mono ?_; rintro e w9 ⟨rfl, rfl⟩)
            go_ret
            exact ⟨ret_bool hv.out.symm, hI.out.bel⟩

end Go.Proofs.Ythhalmjapiempaa

set_option linter.unusedVariables false
set_option linter.unusedSimpArgs false
namespace Go.Proofs.Ythhalmjapiempaa
open Go.RowKit

def magicL : List UInt8 := [82, 71, 65, 85]
def tailL : List UInt8 := [85, 65, 71, 82]
def encW0 : WS := bytesS ⟨0, false, List.replicate 256 0⟩ magicL
def hdS (s : WS) (ge ph tg : Int) : Nat → WS
  | 0 => s
  | 1 => putS s ge 1
  | 2 => putS (putS s ge 1) ph 1
  | _ => putS (putS (putS s ge 1) ph 1) tg 1
def nmS (s : WS) (ge tx rt pg li : Int) : Nat → WS
  | 0 => s
  | 1 => putS s tx (iwI ge)
  | 2 => putS (putS s tx (iwI ge)) rt (iwI ge)
  | 3 => putS (putS (putS s tx (iwI ge)) rt (iwI ge)) pg (iwI ge)
  | _ => putS (putS (putS (putS s tx (iwI ge)) rt (iwI ge)) pg (iwI ge)) li (iwI ge)
def encW1 (ge ph tg tx rt pg li : Int) (xs : List UInt8) : WS := bytesS (nmS (putS (hdS encW0 ge ph tg 3) (xs.length : Int) 1) ge tx rt pg li 4) xs
def encW (ge ph tg tx rt pg li : Int) (xs : List UInt8) : WS := bytesS (skipS (encW1 ge ph tg tx rt pg li xs) (248 - ((encW1 ge ph tg tx rt pg li xs).at_ : Int))) tailL
/-- What Encode hands back, as the program reckons it. -/
def encP (ge ph tg tx rt pg li : Int) (xs : List UInt8) : List UInt8 := sealB (doneB (encW ge ph tg tx rt pg li xs).sp (encW ge ph tg tx rt pg li xs).xs) 252
/-- The writer, and the meta's own cell, while Encode runs. -/
structure EW (w : World) (g g2 : Nat) (u : Array Value) (s : WS) (W : World) : Prop where
  wr : Wr W w.heap.size g g2 256 s
  row : W.heap[w.heap.size]? = some (.cells u 36)
  bel : Below w.heap.size w W
  n1 : w.heap.size ≠ g
  n2 : w.heap.size ≠ g2
theorem EW.step {w W W1 : World} {g g2 : Nat} {u : Array Value} {s : WS} (h : EW w g g2 u s W) (hB : Below W.heap.size W W1) : EW w g g2 u s W1 :=
  ⟨h.wr.below hB, (hB.block _ (Array.getElem?_eq_some_iff.1 h.row).1).trans h.row, below_then h.bel h.bel.size hB, h.n1, h.n2⟩
theorem EW.writer {w W W1 : World} {g g2 : Nat} {u : Array Value} {s s1 : WS} (h : EW w g g2 u s W) (ho : Only2 g g2 W W1) (h1 : Wr W1 w.heap.size g g2 256 s1) : EW w g g2 u s1 W1 :=
  ⟨h1, (ho.block _ (Array.getElem?_eq_some_iff.1 h.row).1 h.n1 h.n2).trans h.row, ho.below h.bel h.wr.lo h.wr.lo2 (Nat.le_refl _), h.n1, h.n2⟩
theorem EW.bs {w W : World} {g g2 : Nat} {u : Array Value} {s : WS} {A : Option Addr} {n c : Nat} {xs : List UInt8} (h : EW w g g2 u s W) (hb : Bs w A n c xs) : Bs W A n c xs := hb.map fun a v k => (h.bel.cell (World.block_lt_of_cell? w a k)).trans k
theorem EW.apart {w W : World} {g g2 : Nat} {u : Array Value} {s : WS} {A : Option Addr} {n c : Nat} {xs : List UInt8} (h : EW w g g2 u s W) (hb : Bs w A n c xs) : (∀ ad, A = some ad → 0 < n → ad.block ≠ g) ∧ (∀ ad, A = some ad → 0 < n → ad.block ≠ g2) :=
  ⟨fun ad e h0 => by have := hb.lt ad e h0; have := h.wr.lo; omega, fun ad e h0 => by have := hb.lt ad e h0; have := h.wr.lo2; omega⟩
/-- A new literal of bytes is apart from a writer. -/
theorem EW.lit {w W : World} {g g2 : Nat} {u : Array Value} {s : WS} (h : EW w g g2 u s W) (m : Nat) : (∀ ad, (some ⟨W.heap.size, 0, none⟩ : Option Addr) = some ad → 0 < m → ad.block ≠ g) ∧ (∀ ad, (some ⟨W.heap.size, 0, none⟩ : Option Addr) = some ad → 0 < m → ad.block ≠ g2) :=
  ⟨fun ad e _ => by injection e with e; subst e; exact (show W.heap.size ≠ g by have := h.wr.lt.1; omega), fun ad e _ => by injection e with e; subst e; exact (show W.heap.size ≠ g2 by have := h.wr.lt.2; omega)⟩
theorem right_bounds {ge ph tg tx rt pg li : Int} {n : Nat} (h : mrightB ge ph tg tx rt pg li n = true) : 1 ≤ ge ∧ ge ≤ 3 ∧ 0 ≤ ph ∧ ph ≤ 1 ∧ 0 ≤ tg ∧ tg ≤ 3 ∧ 1 ≤ tx ∧ tx ≤ 2147483647 ∧ 2 ≤ rt ∧ rt < pg ∧ 3 ≤ pg ∧ pg ≤ 16384 ∧ 0 ≤ li ∧ li < pg ∧ (n : Int) ≤ 24 := by
  obtain ⟨h0, h1, h2, h3, h4, h5, h6, h7⟩ := of_decide_eq_true h
  have h8 := of_decide_eq_true h0
  have hm : tg = 1 ∨ tg = 2 ∨ tg = 3 → mkI tg ≤ 24 := by rintro (rfl | rfl | rfl) <;> decide
  omega

set_option maxHeartbeats 4000000 in
set_option maxRecDepth 100000 in
theorem mencode_any (ge ph tg tx rt pg li : Int) (A : Option Addr) (n c : Nat) (xs : List UInt8) (w : World) (hb : Bs w A n c xs) :
    Calls Try.prog 43 #[.agg #[.int .i64 ge, .int .i64 ph, .int .i64 tg, .int .i64 tx, .int .i64 rt, .int .i64 pg, .int .i64 li, .slice A n c]] w fun e w' => Below w.heap.size w w' ∧
      ((mrightB ge ph tg tx rt pg li n = false ∧ e = .returned (.tuple #[.slice none 0 0, .int .i64 92])) ∨
       (mrightB ge ph tg tx rt pg li n = true ∧ ∃ A' c', e = .returned (.tuple #[.slice A' (encP ge ph tg tx rt pg li xs).length c', .int .i64 0]) ∧ Ow w' w.heap.size A' (encP ge ph tg tx rt pg li xs).length c' (encP ge ph tg tx rt pg li xs))) := by
  have hn := hb.lim
  obtain rfl := hb.len
  have HB := Aside0.mk ((Below.refl w.heap.size w).alloc (Nat.le_refl _) (.cells #[.int .i64 ge, .int .i64 ph, .int .i64 tg, .int .i64 tx, .int .i64 rt, .int .i64 pg, .int .i64 li, .slice A xs.length c] 36))
  have hr := Aside0.mk (heap_alloc_new w (.cells #[.int .i64 ge, .int .i64 ph, .int .i64 tg, .int .i64 tx, .int .i64 rt, .int .i64 pg, .int .i64 li, .slice A xs.length c] 36))
  have HX := Aside0.mk hb
  clear hb
  cases hR : mrightB ge ph tg tx rt pg li xs.length with
  | false =>
    go_enter Try.func43, Try.ntmps43
    go_wp2_with (go_at_call 58; refine (mright_any ge ph tg tx rt pg li A xs.length c _ hn).mono ?_; rintro e w1 ⟨rfl, hB1⟩; rw [hR])
    go_ret2
    exact ⟨below_then HB.out (by simp) hB1, .inl ⟨trivial, rfl⟩⟩
  | true =>
    have BD := Aside0.mk (right_bounds hR)
    have kc := fun W C n c => Lib.run_convert_bytes_const (P := Try.prog) W 22 5 C n c Try.underlying22 Try.underlying5
    go_enter Try.func43, Try.ntmps43
    go_wp2_with (first
      | (go_at_call 58; refine (mright_any ge ph tg tx rt pg li A xs.length c _ hn).mono ?_; rintro e w1 ⟨rfl, hB1⟩; rw [hR]; (have H1 := Aside0.mk (And.intro (below_then HB.out (by simp) hB1) ((hB1.block w.heap.size (by simp)).trans hr.out))); clear hB1)
      | (go_at_call 66; refine (newWriter_any 256 w1).mono ?_; rintro e w2 ⟨g, g2, rfl, hg, hg2, hne, hgl, hc, hO, hB2⟩; (have H2 := Aside0.mk (show EW w g g2 #[.int .i64 ge, .int .i64 ph, .int .i64 tg, .int .i64 tx, .int .i64 rt, .int .i64 pg, .int .i64 li, .slice A xs.length c] ⟨0, false, List.replicate 256 0⟩ w2 from by
          have z1 := H1.out.1.size
          have zl := (Array.getElem?_eq_some_iff.1 H1.out.2).1
          exact ⟨⟨hc, hO.mono z1, hne, by omega, by omega⟩, (hB2.block _ zl).trans H1.out.2, below_then H1.out.1 z1 hB2, by omega, by omega⟩)); clear hg hg2 hne hgl hc hO hB2)
      | (go_at_call 67; refine (wbytes_any w.heap.size g g2 256 _ (some ⟨w2.heap.size, 0, none⟩) 4 4 magicL _ (H2.out.step ((Below.refl _ _).alloc (Nat.le_refl _) (.cells #[.int .u8 82, .int .u8 71, .int .u8 65, .int .u8 85] 5 (4, 5)))).wr (Bs.lit w2 w2.heap.size rfl #[.int .u8 82, .int .u8 71, .int .u8 65, .int .u8 85] 5 (4, 5) 4 4 magicL rfl rfl (by omega) (by omega) (by omega)) (H2.out.lit 4).1 (H2.out.lit 4).2).mono ?_; rintro e w3 ⟨rfl, hW, hO, _⟩; (have H3 := Aside0.mk ((H2.out.step ((Below.refl _ _).alloc (Nat.le_refl _) (.cells #[.int .u8 82, .int .u8 71, .int .u8 65, .int .u8 85] 5 (4, 5)))).writer hO hW)); clear hW hO)
      | (go_at_call 65; refine (heads_any w.heap.size w3).mono ?_; rintro e w4 ⟨rfl, hB4⟩; (have H4 := Aside0.mk (H3.out.step hB4)); clear hB4))
    go_loopg [20] 3 (fun k v wr => ∃ j : Nat, Aside (k + j = 3) ∧ v = .int .i64 (j : Int) ∧ Aside0 (EW w g g2 #[.int .i64 ge, .int .i64 ph, .int .i64 tg, .int .i64 tx, .int .i64 rt, .int .i64 pg, .int .i64 li, .slice A xs.length c] (hdS encW0 ge ph tg j) wr))
    case atStart => exact ⟨0, rfl, rfl, H4⟩
    case round =>
      obtain ⟨j, hk, rfl, hI⟩ := hrel
      have hjb : j ≤ 3 := by have := hk.out; omega
      rcases (show j = 0 ∨ j = 1 ∨ j = 2 ∨ j = 3 by omega) with rfl | rfl | rfl | rfl
      · obtain ⟨z0, z1, z2, z3, z4, z5, z6, z7⟩ := row8_cells hI.out.row
        have ix := hix0 w.heap.size
        go_wp2_with (go_at_call 68; refine (put_any w.heap.size g g2 256 _ ge 1 wr (by have := BD.out; omega) hI.out.wr).mono ?_; rintro e w5 ⟨rfl, hW5, hO5, _⟩; (have H5 := Aside0.mk (hI.out.writer hO5 hW5)); clear hW5 hO5)
        go_roundg (3 - (0 + 1))
        case measure => have := hk.out; omega
        case rel => exact ⟨0 + 1, rfl, by go_num, H5⟩
      · obtain ⟨z0, z1, z2, z3, z4, z5, z6, z7⟩ := row8_cells hI.out.row
        have ix := hix1 w.heap.size
        go_wp2_with (go_at_call 68; refine (put_any w.heap.size g g2 256 _ ph 1 wr (by have := BD.out; omega) hI.out.wr).mono ?_; rintro e w5 ⟨rfl, hW5, hO5, _⟩; (have H5 := Aside0.mk (hI.out.writer hO5 hW5)); clear hW5 hO5)
        go_roundg (3 - (1 + 1))
        case measure => have := hk.out; omega
        case rel => exact ⟨1 + 1, rfl, by go_num, H5⟩
      · obtain ⟨z0, z1, z2, z3, z4, z5, z6, z7⟩ := row8_cells hI.out.row
        have ix := hix2 w.heap.size
        go_wp2_with (go_at_call 68; refine (put_any w.heap.size g g2 256 _ tg 1 wr (by have := BD.out; omega) hI.out.wr).mono ?_; rintro e w5 ⟨rfl, hW5, hO5, _⟩; (have H5 := Aside0.mk (hI.out.writer hO5 hW5)); clear hW5 hO5)
        go_roundg (3 - (2 + 1))
        case measure => have := hk.out; omega
        case rel => exact ⟨2 + 1, rfl, by go_num, H5⟩
      · obtain ⟨z0, z1, z2, z3, z4, z5, z6, z7⟩ := row8_cells hI.out.row
        clear hk hjb
        generalize wr = wq at hI z0 z1 z2 z3 z4 z5 z6 z7 ⊢
        go_wp2_with (first | (go_at_call 68; refine (put_any w.heap.size g g2 256 _ (xs.length : Int) 1 wq (by have := BD.out; omega) hI.out.wr).mono ?_; rintro e w5 ⟨rfl, hW5, hO5, _⟩; (have H5 := Aside0.mk (hI.out.writer hO5 hW5)); clear hW5 hO5) | (go_at_call 64; refine (numbers_any w.heap.size w5).mono ?_; rintro e w6 ⟨rfl, hB6⟩; (have H6 := Aside0.mk (H5.out.step hB6)); clear hB6))
        clear hI z0 z1 z2 z3 z4 z5 z6 z7
        obtain ⟨s5, hs5⟩ : ∃ s5, putS (hdS encW0 ge ph tg 3) (xs.length : Int) 1 = s5 := ⟨_, rfl⟩
        rw [hs5] at H6
        go_loopg [35] 4 (fun k v wr => ∃ j : Nat, Aside (k + j = 4) ∧ v = .int .i64 (j : Int) ∧ Aside0 (EW w g g2 #[.int .i64 ge, .int .i64 ph, .int .i64 tg, .int .i64 tx, .int .i64 rt, .int .i64 pg, .int .i64 li, .slice A xs.length c] (nmS s5 ge tx rt pg li j) wr))
        case atStart => exact ⟨0, rfl, rfl, H6⟩
        case round =>
          obtain ⟨j, hk, rfl, hI⟩ := hrel
          have hjb : j ≤ 4 := by have := hk.out; omega
          rcases (show j = 0 ∨ j = 1 ∨ j = 2 ∨ j = 3 ∨ j = 4 by omega) with rfl | rfl | rfl | rfl | rfl
          · obtain ⟨z0, z1, z2, z3, z4, z5, z6, z7⟩ := row8_cells hI.out.row
            have ix := nix0 w.heap.size
            go_upto_region 14 with fail
            refine wp_region_held_drew (S := (fun w' => w'.cell? ⟨w.heap.size, 3, none⟩ = some (.int .i64 tx) ∧ w'.cell? ⟨w.heap.size, 0, none⟩ = some (.int .i64 ge))) (by kernel_rfl) ⟨z3, z0⟩ (fun hHeld => ?_)
            refine wpAnyH_take (i := 0) (v := ?_) (by simp only [List.getElem?_toArray, List.getElem?_cons_succ, List.getElem?_cons_zero]; rfl) (by kernel_rfl) (by kernel_rfl) (by kernel_rfl) (by exact fun _ _ _ h => h) (Or.inl ⟨by rfl, ?_⟩) hHeld ?_
            rotate_left
            · (intro w' hSw; (try dsimp only at hSw); go_simp; try with_reducible rfl)
            try simp only [Act.put, List.setIfInBounds_toArray, List.set_cons_zero, List.set_cons_succ]
            refine wpAnyH_take (i := 1) (v := ?_) (by simp only [List.getElem?_toArray, List.getElem?_cons_succ, List.getElem?_cons_zero]; rfl) (by kernel_rfl) (by kernel_rfl) (by kernel_rfl) (by exact fun _ _ _ h => h) (Or.inl ⟨by rfl, ?_⟩) hHeld ?_
            rotate_left
            · (intro w' hSw; (try dsimp only at hSw); go_simp; try with_reducible rfl)
            try simp only [Act.put, List.setIfInBounds_toArray, List.set_cons_zero, List.set_cons_succ]
            refine wpAnyH_take (i := 2) (v := ?_) (by simp only [List.getElem?_toArray, List.getElem?_cons_succ, List.getElem?_cons_zero]; rfl) (by kernel_rfl) (by kernel_rfl) (by kernel_rfl) (by exact fun _ _ _ h => h) (Or.inl ⟨by rfl, ?_⟩) hHeld ?_
            rotate_left
            · (intro w' hSw; (try dsimp only at hSw); go_simp; try with_reducible rfl)
            try simp only [Act.put, List.setIfInBounds_toArray, List.set_cons_zero, List.set_cons_succ]
            refine wpAnyH_take (i := 3) (v := ?_) (by simp only [List.getElem?_toArray, List.getElem?_cons_succ, List.getElem?_cons_zero]; rfl) (by kernel_rfl) (by kernel_rfl) (by kernel_rfl) (by exact fun _ _ _ h => h) (Or.inl ⟨by rfl, ?_⟩) hHeld ?_
            rotate_left
            · (intro w' hSw; (try dsimp only at hSw); go_simp; try with_reducible rfl)
            try simp only [Act.put, List.setIfInBounds_toArray, List.set_cons_zero, List.set_cons_succ]
            refine wpAnyH_take (i := 4) (v := ?_) (by simp only [List.getElem?_toArray, List.getElem?_cons_succ, List.getElem?_cons_zero]; rfl) (by kernel_rfl) (by kernel_rfl) (by kernel_rfl) (by exact fun _ _ _ h => h) (Or.inl ⟨by rfl, ?_⟩) hHeld ?_
            rotate_left
            · (intro w' hSw; (try dsimp only at hSw); go_simp; try with_reducible rfl)
            try simp only [Act.put, List.setIfInBounds_toArray, List.set_cons_zero, List.set_cons_succ]
            refine wpAnyH_take (i := 5) (v := ?_) (by simp only [List.getElem?_toArray, List.getElem?_cons_succ, List.getElem?_cons_zero]; rfl) (by kernel_rfl) (by kernel_rfl) (by kernel_rfl) (by exact fun _ _ _ h => h) (Or.inl ⟨by rfl, ?_⟩) hHeld ?_
            rotate_left
            · (intro w' hSw; (try dsimp only at hSw); go_simp; try with_reducible rfl)
            try simp only [Act.put, List.setIfInBounds_toArray, List.set_cons_zero, List.set_cons_succ]
            refine wpAnyH_ready (rs := [6]) (by kernel_rfl) (by simp) ?_
            refine AllReadyH.cons (by simp only [List.getElem?_toArray, List.getElem?_cons_succ, List.getElem?_cons_zero]; rfl) (fun K hK => ?_) AllReadyH.nil
            rw [if_pos (by rfl)]
            go_simp
            refine (idWidth_any ge _).mono ?_
            rintro e w7 ⟨rfl, hB7⟩
            have H7 := Aside0.mk ((hI.out.step (below_drew (Below.refl _ _))).step hB7)
            clear hB7 z0 z1 z2 z3 z4 z5 z6 z7
            obtain ⟨z0, z1, z2, z3, z4, z5, z6, z7⟩ := row8_cells H7.out.row
            dsimp only
            refine hK.out _ _ ⟨z3, z0⟩ (fun hHeld => ?_)
            clear hK K
            try simp only [Act.put, List.setIfInBounds_toArray, List.set_cons_zero, List.set_cons_succ]
            refine wpAnyH_ready (rs := [7]) (by kernel_rfl) (by simp) ?_
            refine AllReadyH.cons (by simp only [List.getElem?_toArray, List.getElem?_cons_succ, List.getElem?_cons_zero]; rfl) (fun K hK => ?_) AllReadyH.nil
            rw [if_pos (by rfl)]
            go_simp
            refine (put_any w.heap.size g g2 256 _ tx (iwI ge) w7 (by have := BD.out; omega) H7.out.wr).mono ?_
            rintro e w8 ⟨rfl, hW8, hO8, _⟩
            have H8 := Aside0.mk (H7.out.writer hO8 hW8)
            clear hW8 hO8 z0 z1 z2 z3 z4 z5 z6 z7
            obtain ⟨z0, z1, z2, z3, z4, z5, z6, z7⟩ := row8_cells H8.out.row
            dsimp only
            refine hK.out _ _ ⟨z3, z0⟩ (fun hHeld => ?_)
            clear hK K
            try simp only [Act.put, List.setIfInBounds_toArray, List.set_cons_zero, List.set_cons_succ]
            refine wpAnyH_done (by kernel_rfl) ?_ _
            go_wp2_with fail
            go_roundg (4 - (0 + 1))
            case measure => have := hk.out; omega
            case rel => exact ⟨0 + 1, rfl, by go_num, H8⟩
          · obtain ⟨z0, z1, z2, z3, z4, z5, z6, z7⟩ := row8_cells hI.out.row
            have ix := nix1 w.heap.size
            go_upto_region 14 with fail
            refine wp_region_held_drew (S := (fun w' => w'.cell? ⟨w.heap.size, 4, none⟩ = some (.int .i64 rt) ∧ w'.cell? ⟨w.heap.size, 0, none⟩ = some (.int .i64 ge))) (by kernel_rfl) ⟨z4, z0⟩ (fun hHeld => ?_)
            refine wpAnyH_take (i := 0) (v := ?_) (by simp only [List.getElem?_toArray, List.getElem?_cons_succ, List.getElem?_cons_zero]; rfl) (by kernel_rfl) (by kernel_rfl) (by kernel_rfl) (by exact fun _ _ _ h => h) (Or.inl ⟨by rfl, ?_⟩) hHeld ?_
            rotate_left
            · (intro w' hSw; (try dsimp only at hSw); go_simp; try with_reducible rfl)
            try simp only [Act.put, List.setIfInBounds_toArray, List.set_cons_zero, List.set_cons_succ]
            refine wpAnyH_take (i := 1) (v := ?_) (by simp only [List.getElem?_toArray, List.getElem?_cons_succ, List.getElem?_cons_zero]; rfl) (by kernel_rfl) (by kernel_rfl) (by kernel_rfl) (by exact fun _ _ _ h => h) (Or.inl ⟨by rfl, ?_⟩) hHeld ?_
            rotate_left
            · (intro w' hSw; (try dsimp only at hSw); go_simp; try with_reducible rfl)
            try simp only [Act.put, List.setIfInBounds_toArray, List.set_cons_zero, List.set_cons_succ]
            refine wpAnyH_take (i := 2) (v := ?_) (by simp only [List.getElem?_toArray, List.getElem?_cons_succ, List.getElem?_cons_zero]; rfl) (by kernel_rfl) (by kernel_rfl) (by kernel_rfl) (by exact fun _ _ _ h => h) (Or.inl ⟨by rfl, ?_⟩) hHeld ?_
            rotate_left
            · (intro w' hSw; (try dsimp only at hSw); go_simp; try with_reducible rfl)
            try simp only [Act.put, List.setIfInBounds_toArray, List.set_cons_zero, List.set_cons_succ]
            refine wpAnyH_take (i := 3) (v := ?_) (by simp only [List.getElem?_toArray, List.getElem?_cons_succ, List.getElem?_cons_zero]; rfl) (by kernel_rfl) (by kernel_rfl) (by kernel_rfl) (by exact fun _ _ _ h => h) (Or.inl ⟨by rfl, ?_⟩) hHeld ?_
            rotate_left
            · (intro w' hSw; (try dsimp only at hSw); go_simp; try with_reducible rfl)
            try simp only [Act.put, List.setIfInBounds_toArray, List.set_cons_zero, List.set_cons_succ]
            refine wpAnyH_take (i := 4) (v := ?_) (by simp only [List.getElem?_toArray, List.getElem?_cons_succ, List.getElem?_cons_zero]; rfl) (by kernel_rfl) (by kernel_rfl) (by kernel_rfl) (by exact fun _ _ _ h => h) (Or.inl ⟨by rfl, ?_⟩) hHeld ?_
            rotate_left
            · (intro w' hSw; (try dsimp only at hSw); go_simp; try with_reducible rfl)
            try simp only [Act.put, List.setIfInBounds_toArray, List.set_cons_zero, List.set_cons_succ]
            refine wpAnyH_take (i := 5) (v := ?_) (by simp only [List.getElem?_toArray, List.getElem?_cons_succ, List.getElem?_cons_zero]; rfl) (by kernel_rfl) (by kernel_rfl) (by kernel_rfl) (by exact fun _ _ _ h => h) (Or.inl ⟨by rfl, ?_⟩) hHeld ?_
            rotate_left
            · (intro w' hSw; (try dsimp only at hSw); go_simp; try with_reducible rfl)
            try simp only [Act.put, List.setIfInBounds_toArray, List.set_cons_zero, List.set_cons_succ]
            refine wpAnyH_ready (rs := [6]) (by kernel_rfl) (by simp) ?_
            refine AllReadyH.cons (by simp only [List.getElem?_toArray, List.getElem?_cons_succ, List.getElem?_cons_zero]; rfl) (fun K hK => ?_) AllReadyH.nil
            rw [if_pos (by rfl)]
            go_simp
            refine (idWidth_any ge _).mono ?_
            rintro e w7 ⟨rfl, hB7⟩
            have H7 := Aside0.mk ((hI.out.step (below_drew (Below.refl _ _))).step hB7)
            clear hB7 z0 z1 z2 z3 z4 z5 z6 z7
            obtain ⟨z0, z1, z2, z3, z4, z5, z6, z7⟩ := row8_cells H7.out.row
            dsimp only
            refine hK.out _ _ ⟨z4, z0⟩ (fun hHeld => ?_)
            clear hK K
            try simp only [Act.put, List.setIfInBounds_toArray, List.set_cons_zero, List.set_cons_succ]
            refine wpAnyH_ready (rs := [7]) (by kernel_rfl) (by simp) ?_
            refine AllReadyH.cons (by simp only [List.getElem?_toArray, List.getElem?_cons_succ, List.getElem?_cons_zero]; rfl) (fun K hK => ?_) AllReadyH.nil
            rw [if_pos (by rfl)]
            go_simp
            refine (put_any w.heap.size g g2 256 _ rt (iwI ge) w7 (by have := BD.out; omega) H7.out.wr).mono ?_
            rintro e w8 ⟨rfl, hW8, hO8, _⟩
            have H8 := Aside0.mk (H7.out.writer hO8 hW8)
            clear hW8 hO8 z0 z1 z2 z3 z4 z5 z6 z7
            obtain ⟨z0, z1, z2, z3, z4, z5, z6, z7⟩ := row8_cells H8.out.row
            dsimp only
            refine hK.out _ _ ⟨z4, z0⟩ (fun hHeld => ?_)
            clear hK K
            try simp only [Act.put, List.setIfInBounds_toArray, List.set_cons_zero, List.set_cons_succ]
            refine wpAnyH_done (by kernel_rfl) ?_ _
            go_wp2_with fail
            go_roundg (4 - (1 + 1))
            case measure => have := hk.out; omega
            case rel => exact ⟨1 + 1, rfl, by go_num, H8⟩
          · obtain ⟨z0, z1, z2, z3, z4, z5, z6, z7⟩ := row8_cells hI.out.row
            have ix := nix2 w.heap.size
            go_upto_region 14 with fail
            refine wp_region_held_drew (S := (fun w' => w'.cell? ⟨w.heap.size, 5, none⟩ = some (.int .i64 pg) ∧ w'.cell? ⟨w.heap.size, 0, none⟩ = some (.int .i64 ge))) (by kernel_rfl) ⟨z5, z0⟩ (fun hHeld => ?_)
            refine wpAnyH_take (i := 0) (v := ?_) (by simp only [List.getElem?_toArray, List.getElem?_cons_succ, List.getElem?_cons_zero]; rfl) (by kernel_rfl) (by kernel_rfl) (by kernel_rfl) (by exact fun _ _ _ h => h) (Or.inl ⟨by rfl, ?_⟩) hHeld ?_
            rotate_left
            · (intro w' hSw; (try dsimp only at hSw); go_simp; try with_reducible rfl)
            try simp only [Act.put, List.setIfInBounds_toArray, List.set_cons_zero, List.set_cons_succ]
            refine wpAnyH_take (i := 1) (v := ?_) (by simp only [List.getElem?_toArray, List.getElem?_cons_succ, List.getElem?_cons_zero]; rfl) (by kernel_rfl) (by kernel_rfl) (by kernel_rfl) (by exact fun _ _ _ h => h) (Or.inl ⟨by rfl, ?_⟩) hHeld ?_
            rotate_left
            · (intro w' hSw; (try dsimp only at hSw); go_simp; try with_reducible rfl)
            try simp only [Act.put, List.setIfInBounds_toArray, List.set_cons_zero, List.set_cons_succ]
            refine wpAnyH_take (i := 2) (v := ?_) (by simp only [List.getElem?_toArray, List.getElem?_cons_succ, List.getElem?_cons_zero]; rfl) (by kernel_rfl) (by kernel_rfl) (by kernel_rfl) (by exact fun _ _ _ h => h) (Or.inl ⟨by rfl, ?_⟩) hHeld ?_
            rotate_left
            · (intro w' hSw; (try dsimp only at hSw); go_simp; try with_reducible rfl)
            try simp only [Act.put, List.setIfInBounds_toArray, List.set_cons_zero, List.set_cons_succ]
            refine wpAnyH_take (i := 3) (v := ?_) (by simp only [List.getElem?_toArray, List.getElem?_cons_succ, List.getElem?_cons_zero]; rfl) (by kernel_rfl) (by kernel_rfl) (by kernel_rfl) (by exact fun _ _ _ h => h) (Or.inl ⟨by rfl, ?_⟩) hHeld ?_
            rotate_left
            · (intro w' hSw; (try dsimp only at hSw); go_simp; try with_reducible rfl)
            try simp only [Act.put, List.setIfInBounds_toArray, List.set_cons_zero, List.set_cons_succ]
            refine wpAnyH_take (i := 4) (v := ?_) (by simp only [List.getElem?_toArray, List.getElem?_cons_succ, List.getElem?_cons_zero]; rfl) (by kernel_rfl) (by kernel_rfl) (by kernel_rfl) (by exact fun _ _ _ h => h) (Or.inl ⟨by rfl, ?_⟩) hHeld ?_
            rotate_left
            · (intro w' hSw; (try dsimp only at hSw); go_simp; try with_reducible rfl)
            try simp only [Act.put, List.setIfInBounds_toArray, List.set_cons_zero, List.set_cons_succ]
            refine wpAnyH_take (i := 5) (v := ?_) (by simp only [List.getElem?_toArray, List.getElem?_cons_succ, List.getElem?_cons_zero]; rfl) (by kernel_rfl) (by kernel_rfl) (by kernel_rfl) (by exact fun _ _ _ h => h) (Or.inl ⟨by rfl, ?_⟩) hHeld ?_
            rotate_left
            · (intro w' hSw; (try dsimp only at hSw); go_simp; try with_reducible rfl)
            try simp only [Act.put, List.setIfInBounds_toArray, List.set_cons_zero, List.set_cons_succ]
            refine wpAnyH_ready (rs := [6]) (by kernel_rfl) (by simp) ?_
            refine AllReadyH.cons (by simp only [List.getElem?_toArray, List.getElem?_cons_succ, List.getElem?_cons_zero]; rfl) (fun K hK => ?_) AllReadyH.nil
            rw [if_pos (by rfl)]
            go_simp
            refine (idWidth_any ge _).mono ?_
            rintro e w7 ⟨rfl, hB7⟩
            have H7 := Aside0.mk ((hI.out.step (below_drew (Below.refl _ _))).step hB7)
            clear hB7 z0 z1 z2 z3 z4 z5 z6 z7
            obtain ⟨z0, z1, z2, z3, z4, z5, z6, z7⟩ := row8_cells H7.out.row
            dsimp only
            refine hK.out _ _ ⟨z5, z0⟩ (fun hHeld => ?_)
            clear hK K
            try simp only [Act.put, List.setIfInBounds_toArray, List.set_cons_zero, List.set_cons_succ]
            refine wpAnyH_ready (rs := [7]) (by kernel_rfl) (by simp) ?_
            refine AllReadyH.cons (by simp only [List.getElem?_toArray, List.getElem?_cons_succ, List.getElem?_cons_zero]; rfl) (fun K hK => ?_) AllReadyH.nil
            rw [if_pos (by rfl)]
            go_simp
            refine (put_any w.heap.size g g2 256 _ pg (iwI ge) w7 (by have := BD.out; omega) H7.out.wr).mono ?_
            rintro e w8 ⟨rfl, hW8, hO8, _⟩
            have H8 := Aside0.mk (H7.out.writer hO8 hW8)
            clear hW8 hO8 z0 z1 z2 z3 z4 z5 z6 z7
            obtain ⟨z0, z1, z2, z3, z4, z5, z6, z7⟩ := row8_cells H8.out.row
            dsimp only
            refine hK.out _ _ ⟨z5, z0⟩ (fun hHeld => ?_)
            clear hK K
            try simp only [Act.put, List.setIfInBounds_toArray, List.set_cons_zero, List.set_cons_succ]
            refine wpAnyH_done (by kernel_rfl) ?_ _
            go_wp2_with fail
            go_roundg (4 - (2 + 1))
            case measure => have := hk.out; omega
            case rel => exact ⟨2 + 1, rfl, by go_num, H8⟩
          · obtain ⟨z0, z1, z2, z3, z4, z5, z6, z7⟩ := row8_cells hI.out.row
            have ix := nix3 w.heap.size
            go_upto_region 14 with fail
            refine wp_region_held_drew (S := (fun w' => w'.cell? ⟨w.heap.size, 6, none⟩ = some (.int .i64 li) ∧ w'.cell? ⟨w.heap.size, 0, none⟩ = some (.int .i64 ge))) (by kernel_rfl) ⟨z6, z0⟩ (fun hHeld => ?_)
            refine wpAnyH_take (i := 0) (v := ?_) (by simp only [List.getElem?_toArray, List.getElem?_cons_succ, List.getElem?_cons_zero]; rfl) (by kernel_rfl) (by kernel_rfl) (by kernel_rfl) (by exact fun _ _ _ h => h) (Or.inl ⟨by rfl, ?_⟩) hHeld ?_
            rotate_left
            · (intro w' hSw; (try dsimp only at hSw); go_simp; try with_reducible rfl)
            try simp only [Act.put, List.setIfInBounds_toArray, List.set_cons_zero, List.set_cons_succ]
            refine wpAnyH_take (i := 1) (v := ?_) (by simp only [List.getElem?_toArray, List.getElem?_cons_succ, List.getElem?_cons_zero]; rfl) (by kernel_rfl) (by kernel_rfl) (by kernel_rfl) (by exact fun _ _ _ h => h) (Or.inl ⟨by rfl, ?_⟩) hHeld ?_
            rotate_left
            · (intro w' hSw; (try dsimp only at hSw); go_simp; try with_reducible rfl)
            try simp only [Act.put, List.setIfInBounds_toArray, List.set_cons_zero, List.set_cons_succ]
            refine wpAnyH_take (i := 2) (v := ?_) (by simp only [List.getElem?_toArray, List.getElem?_cons_succ, List.getElem?_cons_zero]; rfl) (by kernel_rfl) (by kernel_rfl) (by kernel_rfl) (by exact fun _ _ _ h => h) (Or.inl ⟨by rfl, ?_⟩) hHeld ?_
            rotate_left
            · (intro w' hSw; (try dsimp only at hSw); go_simp; try with_reducible rfl)
            try simp only [Act.put, List.setIfInBounds_toArray, List.set_cons_zero, List.set_cons_succ]
            refine wpAnyH_take (i := 3) (v := ?_) (by simp only [List.getElem?_toArray, List.getElem?_cons_succ, List.getElem?_cons_zero]; rfl) (by kernel_rfl) (by kernel_rfl) (by kernel_rfl) (by exact fun _ _ _ h => h) (Or.inl ⟨by rfl, ?_⟩) hHeld ?_
            rotate_left
            · (intro w' hSw; (try dsimp only at hSw); go_simp; try with_reducible rfl)
            try simp only [Act.put, List.setIfInBounds_toArray, List.set_cons_zero, List.set_cons_succ]
            refine wpAnyH_take (i := 4) (v := ?_) (by simp only [List.getElem?_toArray, List.getElem?_cons_succ, List.getElem?_cons_zero]; rfl) (by kernel_rfl) (by kernel_rfl) (by kernel_rfl) (by exact fun _ _ _ h => h) (Or.inl ⟨by rfl, ?_⟩) hHeld ?_
            rotate_left
            · (intro w' hSw; (try dsimp only at hSw); go_simp; try with_reducible rfl)
            try simp only [Act.put, List.setIfInBounds_toArray, List.set_cons_zero, List.set_cons_succ]
            refine wpAnyH_take (i := 5) (v := ?_) (by simp only [List.getElem?_toArray, List.getElem?_cons_succ, List.getElem?_cons_zero]; rfl) (by kernel_rfl) (by kernel_rfl) (by kernel_rfl) (by exact fun _ _ _ h => h) (Or.inl ⟨by rfl, ?_⟩) hHeld ?_
            rotate_left
            · (intro w' hSw; (try dsimp only at hSw); go_simp; try with_reducible rfl)
            try simp only [Act.put, List.setIfInBounds_toArray, List.set_cons_zero, List.set_cons_succ]
            refine wpAnyH_ready (rs := [6]) (by kernel_rfl) (by simp) ?_
            refine AllReadyH.cons (by simp only [List.getElem?_toArray, List.getElem?_cons_succ, List.getElem?_cons_zero]; rfl) (fun K hK => ?_) AllReadyH.nil
            rw [if_pos (by rfl)]
            go_simp
            refine (idWidth_any ge _).mono ?_
            rintro e w7 ⟨rfl, hB7⟩
            have H7 := Aside0.mk ((hI.out.step (below_drew (Below.refl _ _))).step hB7)
            clear hB7 z0 z1 z2 z3 z4 z5 z6 z7
            obtain ⟨z0, z1, z2, z3, z4, z5, z6, z7⟩ := row8_cells H7.out.row
            dsimp only
            refine hK.out _ _ ⟨z6, z0⟩ (fun hHeld => ?_)
            clear hK K
            try simp only [Act.put, List.setIfInBounds_toArray, List.set_cons_zero, List.set_cons_succ]
            refine wpAnyH_ready (rs := [7]) (by kernel_rfl) (by simp) ?_
            refine AllReadyH.cons (by simp only [List.getElem?_toArray, List.getElem?_cons_succ, List.getElem?_cons_zero]; rfl) (fun K hK => ?_) AllReadyH.nil
            rw [if_pos (by rfl)]
            go_simp
            refine (put_any w.heap.size g g2 256 _ li (iwI ge) w7 (by have := BD.out; omega) H7.out.wr).mono ?_
            rintro e w8 ⟨rfl, hW8, hO8, _⟩
            have H8 := Aside0.mk (H7.out.writer hO8 hW8)
            clear hW8 hO8 z0 z1 z2 z3 z4 z5 z6 z7
            obtain ⟨z0, z1, z2, z3, z4, z5, z6, z7⟩ := row8_cells H8.out.row
            dsimp only
            refine hK.out _ _ ⟨z6, z0⟩ (fun hHeld => ?_)
            clear hK K
            try simp only [Act.put, List.setIfInBounds_toArray, List.set_cons_zero, List.set_cons_succ]
            refine wpAnyH_done (by kernel_rfl) ?_ _
            go_wp2_with fail
            go_roundg (4 - (3 + 1))
            case measure => have := hk.out; omega
            case rel => exact ⟨3 + 1, rfl, by go_num, H8⟩
          · clear hk hjb
            generalize wr = wp at hI ⊢
            obtain ⟨z0, z1, z2, z3, z4, z5, z6, z7⟩ := row8_cells hI.out.row
            have hap := hI.out.apart HX.out
            go_upto_region 17 with (go_at_call 67; refine (wbytes_any w.heap.size g g2 256 _ A xs.length c xs wp hI.out.wr (hI.out.bs HX.out) hap.1 hap.2).mono ?_; rintro e w7 ⟨rfl, hW7, hO7, _⟩; (have H7 := Aside0.mk (hI.out.writer hO7 hW7)); clear hW7 hO7)
            clear hap z0 z1 z2 z3 z4 z5 z6 z7
            obtain ⟨s7, hs7⟩ : ∃ s7, bytesS (nmS s5 ge tx rt pg li 4) xs = s7 := ⟨_, rfl⟩
            rw [hs7] at H7
            have hle : (s7.at_ : Int) ≤ 140737488355328 := by have := H7.out.wr.cur.le; have := H7.out.wr.cur.lim; omega
            refine wp_region_held_drew (S := (fun _ => True)) (by kernel_rfl) trivial (fun hHeld => ?_)
            refine wpAnyH_take (i := 0) (v := ?_) (by simp only [List.getElem?_toArray, List.getElem?_cons_succ, List.getElem?_cons_zero]; rfl) (by kernel_rfl) (by kernel_rfl) (by kernel_rfl) (by exact fun _ _ _ h => h) (Or.inl ⟨by rfl, ?_⟩) hHeld ?_
            rotate_left
            · (intro w' hSw; (try dsimp only at hSw); go_simp; try with_reducible rfl)
            try simp only [Act.put, List.setIfInBounds_toArray, List.set_cons_zero, List.set_cons_succ]
            refine wpAnyH_take (i := 1) (v := ?_) (by simp only [List.getElem?_toArray, List.getElem?_cons_succ, List.getElem?_cons_zero]; rfl) (by kernel_rfl) (by kernel_rfl) (by kernel_rfl) (by exact fun _ _ _ h => h) (Or.inl ⟨by rfl, ?_⟩) hHeld ?_
            rotate_left
            · (intro w' hSw; (try dsimp only at hSw); go_simp; try with_reducible rfl)
            try simp only [Act.put, List.setIfInBounds_toArray, List.set_cons_zero, List.set_cons_succ]
            refine wpAnyH_take (i := 2) (v := ?_) (by simp only [List.getElem?_toArray, List.getElem?_cons_succ, List.getElem?_cons_zero]; rfl) (by kernel_rfl) (by kernel_rfl) (by kernel_rfl) (by exact fun _ _ _ h => h) (Or.inl ⟨by rfl, ?_⟩) hHeld ?_
            rotate_left
            · (intro w' hSw; (try dsimp only at hSw); go_simp; try with_reducible rfl)
            try simp only [Act.put, List.setIfInBounds_toArray, List.set_cons_zero, List.set_cons_succ]
            refine wpAnyH_take (i := 3) (v := ?_) (by simp only [List.getElem?_toArray, List.getElem?_cons_succ, List.getElem?_cons_zero]; rfl) (by kernel_rfl) (by kernel_rfl) (by kernel_rfl) (by exact fun _ _ _ h => h) (Or.inl ⟨by rfl, ?_⟩) hHeld ?_
            rotate_left
            · (intro w' hSw; (try dsimp only at hSw); go_simp; try with_reducible rfl)
            try simp only [Act.put, List.setIfInBounds_toArray, List.set_cons_zero, List.set_cons_succ]
            refine wpAnyH_take (i := 4) (v := ?_) (by simp only [List.getElem?_toArray, List.getElem?_cons_succ, List.getElem?_cons_zero]; rfl) (by kernel_rfl) (by kernel_rfl) (by kernel_rfl) (by exact fun _ _ _ h => h) (Or.inl ⟨by rfl, ?_⟩) hHeld ?_
            rotate_left
            · (intro w' hSw; (try dsimp only at hSw); go_simp; try with_reducible rfl)
            try simp only [Act.put, List.setIfInBounds_toArray, List.set_cons_zero, List.set_cons_succ]
            refine wpAnyH_take (i := 5) (v := ?_) (by simp only [List.getElem?_toArray, List.getElem?_cons_succ, List.getElem?_cons_zero]; rfl) (by kernel_rfl) (by kernel_rfl) (by kernel_rfl) (by exact fun _ _ _ h => h) (Or.inl ⟨by rfl, ?_⟩) hHeld ?_
            rotate_left
            · (intro w' hSw; (try dsimp only at hSw); go_simp; try with_reducible rfl)
            try simp only [Act.put, List.setIfInBounds_toArray, List.set_cons_zero, List.set_cons_succ]
            refine wpAnyH_ready (rs := [6]) (by kernel_rfl) (by simp) ?_
            refine AllReadyH.cons (by simp only [List.getElem?_toArray, List.getElem?_cons_succ, List.getElem?_cons_zero]; rfl) (fun K hK => ?_) AllReadyH.nil
            rw [if_pos (by rfl)]
            go_simp
            refine (at_any g _ _ _ _ _ _ _ (H7.out.step (below_drew (Below.refl _ _))).wr.cur).mono ?_
            rintro e wa ⟨rfl, rfl⟩
            dsimp only
            refine hK.out _ _ trivial (fun hHeld => ?_)
            clear hK K
            try simp only [Act.put, List.setIfInBounds_toArray, List.set_cons_zero, List.set_cons_succ]
            refine wpAnyH_take (i := 7) (v := ?_) (by simp only [List.getElem?_toArray, List.getElem?_cons_succ, List.getElem?_cons_zero]; rfl) (by kernel_rfl) (by kernel_rfl) (by kernel_rfl) (by exact fun _ _ _ h => h) (Or.inl ⟨by rfl, ?_⟩) hHeld ?_
            rotate_left
            · (intro w' hSw; (try dsimp only at hSw); go_simp; try with_reducible rfl)
            try simp only [Act.put, List.setIfInBounds_toArray, List.set_cons_zero, List.set_cons_succ]
            refine wpAnyH_ready (rs := [8]) (by kernel_rfl) (by simp) ?_
            refine AllReadyH.cons (by simp only [List.getElem?_toArray, List.getElem?_cons_succ, List.getElem?_cons_zero]; rfl) (fun K hK => ?_) AllReadyH.nil
            rw [if_pos (by rfl)]
            go_simp
            rw [show IntKind.i64.wrap (248 - (s7.at_ : Int)) = 248 - (s7.at_ : Int) from by rw [IntKind.wrap_i64]; omega]
            refine (skip_wr w.heap.size g g2 256 s7 (248 - (s7.at_ : Int)) _ (H7.out.step (below_drew (Below.refl _ _))).wr).mono ?_
            rintro e w8 ⟨rfl, hW8, hO8⟩
            have H8 := Aside0.mk ((H7.out.step (below_drew (Below.refl _ _))).writer hO8 hW8)
            clear hW8 hO8
            dsimp only
            refine hK.out _ _ trivial (fun hHeld => ?_)
            clear hK K
            try simp only [Act.put, List.setIfInBounds_toArray, List.set_cons_zero, List.set_cons_succ]
            refine wpAnyH_done (by kernel_rfl) ?_ _
            obtain ⟨s8, hs8⟩ : ∃ s8, skipS s7 (248 - (s7.at_ : Int)) = s8 := ⟨_, rfl⟩
            rw [hs8] at H8
            have hE : encP ge ph tg tx rt pg li xs = sealB (doneB (bytesS s8 tailL).sp (bytesS s8 tailL).xs) 252 := by unfold encP encW encW1; rw [hs5, hs7, hs8]
            have HE := Aside0.mk hE
            clear hE hs5 hs7 hs8 hle H7
            go_wp2_with (first | (go_at_call 67; refine (wbytes_any w.heap.size g g2 256 _ (some ⟨w8.heap.size, 0, none⟩) 4 4 tailL _ (H8.out.step ((Below.refl _ _).alloc (Nat.le_refl _) (.cells #[.int .u8 85, .int .u8 65, .int .u8 71, .int .u8 82] 5 (4, 5)))).wr (Bs.lit w8 w8.heap.size rfl #[.int .u8 85, .int .u8 65, .int .u8 71, .int .u8 82] 5 (4, 5) 4 4 tailL rfl rfl (by omega) (by omega) (by omega)) (H8.out.lit 4).1 (H8.out.lit 4).2).mono ?_; rintro e w9 ⟨rfl, hW, hO, _⟩; (have H9 := Aside0.mk ((H8.out.step ((Below.refl _ _).alloc (Nat.le_refl _) (.cells #[.int .u8 85, .int .u8 65, .int .u8 71, .int .u8 82] 5 (4, 5)))).writer hO hW)); clear hW hO) | (go_at_call 72; refine (done_any g _ _ _ _ _ _ w9 H9.out.wr.cur H9.out.wr.own.bs).mono ?_; rintro e wd ⟨A3, c3, rfl, hO, hB⟩; (have H10 := Aside0.mk (And.intro hO (below_then H9.out.bel H9.out.bel.size hB))); clear hO hB) | (go_at_call 73; refine (seal_any _ _ _ _ 252 wd H10.out.1.bs).mono ?_; rintro e we ⟨A4, c4, rfl, hO4, hB4⟩; (have H11 := Aside0.mk (And.intro hO4 hB4)); clear hO4 hB4))
            go_ret2
            refine ⟨below_then H10.out.2 H10.out.2.size H11.out.2, .inr ⟨trivial, A4, c4, ?_, ?_⟩⟩
            · rw [HE.out, sealB_length]
              rfl
            · rw [HE.out, sealB_length]
              exact H11.out.1.mono H10.out.2.size

end Go.Proofs.Ythhalmjapiempaa
