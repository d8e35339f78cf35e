/- The walks of meta's Right, Write, Slot. -/
import Derived.Test.YtenibcbodjkglaaM1
set_option linter.unusedVariables false
set_option linter.unusedSimpArgs false
namespace Go.Proofs.Ytenibcbodjkglaa
open Go.RowKit

theorem and1 (a : Int) : bits .and .i64 a 1 = a % 2 := by
  show IntKind.i64.wrap ((BitVec.ofInt 64 a &&& BitVec.ofInt 64 1).toNat : Int) = _
  rw [BitVec.toNat_and, show (BitVec.ofInt 64 1).toNat = 1 from rfl, Nat.and_one_is_mod, BitVec.toNat_ofInt]
  have e : IntKind.i64.wrap (((a % (2 ^ 64 : Nat)).toNat % 2 : Nat) : Int) = (((a % (2 ^ 64 : Nat)).toNat % 2 : Nat) : Int) := by
    have : (a % (2 ^ 64 : Nat)).toNat % 2 < 2 := Nat.mod_lt _ (by decide)
    rw [IntKind.wrap_i64]
    omega
  rw [e]
  omega

set_option maxHeartbeats 2000000 in
set_option maxRecDepth 100000 in
theorem slot_any (tx : Int) (w : World) :
    Calls Try.prog 22 #[.int .i64 tx] w fun e w' => e = .returned (.int .i64 (tx % 2)) ∧ w = w' := by
  have ha := and1 tx
  go_enter Try.func22, Try.ntmps22
  go_wp2
  go_ret
  exact ⟨by first | done | rfl | simp [ha], rfl⟩
def writeI (ge ph tg : Int) : Int := if ph = 1 then tg else ge
set_option maxHeartbeats 2000000 in
set_option maxRecDepth 100000 in
theorem mwrite_any (ge ph tg tx rt pg li : Int) (A : Option Addr) (n c : Nat) (w : World) :
    Calls Try.prog 15 #[.agg #[.int .i64 ge, .int .i64 ph, .int .i64 tg, .int .i64 tx, .int .i64 rt, .int .i64 pg, .int .i64 li, .slice A n c]] w fun e w' => e = .returned (.int .i64 (writeI ge ph tg)) ∧ Below w.heap.size w w' := by
  have HB := Aside0.mk ((Below.refl w.heap.size w).alloc (Nat.le_refl _) (.cells #[.int .i64 ge, .int .i64 ph, .int .i64 tg, .int .i64 tx, .int .i64 rt, .int .i64 pg, .int .i64 li, .slice A n c] 26))
  by_cases h1 : ph = 1
  · have f1 := eq0 ph 1 h1
    have hv := Aside0.mk (show writeI ge ph tg = tg from if_pos h1)
    clear h1
    go_enter Try.func15, Try.ntmps15
    go_wp2
    go_ret
    exact ⟨ret_int hv.out.symm, HB.out⟩
  · have f1 := ne0 ph 1 h1
    have hv := Aside0.mk (show writeI ge ph tg = ge from if_neg h1)
    clear h1
    go_enter Try.func15, Try.ntmps15
    go_wp2
    go_ret
    exact ⟨ret_int hv.out.symm, HB.out⟩

set_option maxHeartbeats 2000000 in
set_option maxRecDepth 100000 in
theorem mright_any (ge ph tg tx rt pg li : Int) (A : Option Addr) (n c : Nat) (w : World) (hn : n ≤ 140737488355328) :
    Calls Try.prog 13 #[.agg #[.int .i64 ge, .int .i64 ph, .int .i64 tg, .int .i64 tx, .int .i64 rt, .int .i64 pg, .int .i64 li, .slice A n c]] w fun e w' => e = .returned (.bool (mrightB ge ph tg tx rt pg li n)) ∧ Below w.heap.size w w' := by
  have HB := Aside0.mk ((Below.refl w.heap.size w).alloc (Nat.le_refl _) (.cells #[.int .i64 ge, .int .i64 ph, .int .i64 tg, .int .i64 tx, .int .i64 rt, .int .i64 pg, .int .i64 li, .slice A n c] 26))
  have hr := Aside0.mk (heap_alloc_new w (.cells #[.int .i64 ge, .int .i64 ph, .int .i64 tg, .int .i64 tx, .int .i64 rt, .int .i64 pg, .int .i64 li, .slice A n c] 26))
  by_cases h0 : phaseB ge ph tg n = true
  · have g0 := h0
    by_cases h1 : 1 ≤ tx
    · have f1 : decide (1 ≤ tx) = true := decide_eq_true h1
      by_cases h2 : tx ≤ 2147483647
      · have f2 : decide (tx ≤ 2147483647) = true := decide_eq_true h2
        by_cases h3 : 3 ≤ pg
        · have f3 : decide (3 ≤ pg) = true := decide_eq_true h3
          by_cases h4 : pg ≤ 16384
          · have f4 : decide (pg ≤ 16384) = true := decide_eq_true h4
            by_cases h5 : 2 ≤ rt ∧ rt < pg
            · have g5 : pageB pg rt = true := decide_eq_true h5
              by_cases h6 : li = 0
              · have f6 := eq0 li 0 h6
                have hv := Aside0.mk (show mrightB ge ph tg tx rt pg li n = true from decide_eq_true (by refine ⟨h0, ?_⟩; omega))
                clear h0 h1 h2 h3 h4 h5 h6
                go_enter Try.func13, Try.ntmps13
                go_wp2_with (first | (go_at_call 36; refine (mphase_any ge ph tg tx rt pg li A n c _ hn).mono ?_; rintro e w1 ⟨rfl, hB1⟩; rw [g0]; (have HR1 := Aside0.mk (And.intro (below_then HB.out (by simp) hB1) ((hB1.block w.heap.size (by simp)).trans hr.out))); clear hB1; obtain ⟨c0, c1, c2, c3, c4, c5, c6, c7⟩ := row8_cells HR1.out.2) | (go_at_call 37; first | ((with_reducible refine (mpage_any ge ph tg tx rt pg li A n c rt w1).mono ?_); rintro e w2 ⟨rfl, hB2⟩; rw [g5]; (have HR2 := Aside0.mk (And.intro (below_then HR1.out.1 HR1.out.1.size hB2) ((hB2.block w.heap.size (Array.getElem?_eq_some_iff.1 HR1.out.2).1).trans HR1.out.2))); clear hB2 c0 c1 c2 c3 c4 c5 c6 c7; obtain ⟨c0, c1, c2, c3, c4, c5, c6, c7⟩ := row8_cells HR2.out.2) | ((with_reducible refine (mpage_any ge ph tg tx rt pg li A n c li w2).mono ?_); rintro e w3 ⟨rfl, hB3⟩; rw [g6]; (have HR3 := Aside0.mk (below_then HR2.out.1 HR2.out.1.size hB3)); clear hB3)))
                go_ret
                exact ⟨ret_bool hv.out.symm, HR2.out.1⟩
              · have f6 := ne0 li 0 h6
                by_cases h7 : 2 ≤ li ∧ li < pg
                · have g6 : pageB pg li = true := decide_eq_true h7
                  have hv := Aside0.mk (show mrightB ge ph tg tx rt pg li n = true from decide_eq_true (by refine ⟨h0, ?_⟩; omega))
                  clear h0 h1 h2 h3 h4 h5 h6 h7
                  go_enter Try.func13, Try.ntmps13
                  go_wp2_with (first | (go_at_call 36; refine (mphase_any ge ph tg tx rt pg li A n c _ hn).mono ?_; rintro e w1 ⟨rfl, hB1⟩; rw [g0]; (have HR1 := Aside0.mk (And.intro (below_then HB.out (by simp) hB1) ((hB1.block w.heap.size (by simp)).trans hr.out))); clear hB1; obtain ⟨c0, c1, c2, c3, c4, c5, c6, c7⟩ := row8_cells HR1.out.2) | (go_at_call 37; first | ((with_reducible refine (mpage_any ge ph tg tx rt pg li A n c rt w1).mono ?_); rintro e w2 ⟨rfl, hB2⟩; rw [g5]; (have HR2 := Aside0.mk (And.intro (below_then HR1.out.1 HR1.out.1.size hB2) ((hB2.block w.heap.size (Array.getElem?_eq_some_iff.1 HR1.out.2).1).trans HR1.out.2))); clear hB2 c0 c1 c2 c3 c4 c5 c6 c7; obtain ⟨c0, c1, c2, c3, c4, c5, c6, c7⟩ := row8_cells HR2.out.2) | ((with_reducible refine (mpage_any ge ph tg tx rt pg li A n c li w2).mono ?_); rintro e w3 ⟨rfl, hB3⟩; rw [g6]; (have HR3 := Aside0.mk (below_then HR2.out.1 HR2.out.1.size hB3)); clear hB3)))
                  go_ret
                  exact ⟨ret_bool hv.out.symm, HR3.out⟩
                · have g6 : pageB pg li = false := decide_eq_false h7
                  have hv := Aside0.mk (show mrightB ge ph tg tx rt pg li n = false from decide_eq_false (by rintro ⟨k0, k⟩; first | exact h0 k0 | omega))
                  clear h0 h1 h2 h3 h4 h5 h6 h7
                  go_enter Try.func13, Try.ntmps13
                  go_wp2_with (first | (go_at_call 36; refine (mphase_any ge ph tg tx rt pg li A n c _ hn).mono ?_; rintro e w1 ⟨rfl, hB1⟩; rw [g0]; (have HR1 := Aside0.mk (And.intro (below_then HB.out (by simp) hB1) ((hB1.block w.heap.size (by simp)).trans hr.out))); clear hB1; obtain ⟨c0, c1, c2, c3, c4, c5, c6, c7⟩ := row8_cells HR1.out.2) | (go_at_call 37; first | ((with_reducible refine (mpage_any ge ph tg tx rt pg li A n c rt w1).mono ?_); rintro e w2 ⟨rfl, hB2⟩; rw [g5]; (have HR2 := Aside0.mk (And.intro (below_then HR1.out.1 HR1.out.1.size hB2) ((hB2.block w.heap.size (Array.getElem?_eq_some_iff.1 HR1.out.2).1).trans HR1.out.2))); clear hB2 c0 c1 c2 c3 c4 c5 c6 c7; obtain ⟨c0, c1, c2, c3, c4, c5, c6, c7⟩ := row8_cells HR2.out.2) | ((with_reducible refine (mpage_any ge ph tg tx rt pg li A n c li w2).mono ?_); rintro e w3 ⟨rfl, hB3⟩; rw [g6]; (have HR3 := Aside0.mk (below_then HR2.out.1 HR2.out.1.size hB3)); clear hB3)))
                  go_ret
                  exact ⟨ret_bool hv.out.symm, HR3.out⟩
            · have g5 : pageB pg rt = false := decide_eq_false h5
              have hv := Aside0.mk (show mrightB ge ph tg tx rt pg li n = false from decide_eq_false (by rintro ⟨k0, k⟩; first | exact h0 k0 | omega))
              clear h0 h1 h2 h3 h4 h5
              go_enter Try.func13, Try.ntmps13
              go_wp2_with (first | (go_at_call 36; refine (mphase_any ge ph tg tx rt pg li A n c _ hn).mono ?_; rintro e w1 ⟨rfl, hB1⟩; rw [g0]; (have HR1 := Aside0.mk (And.intro (below_then HB.out (by simp) hB1) ((hB1.block w.heap.size (by simp)).trans hr.out))); clear hB1; obtain ⟨c0, c1, c2, c3, c4, c5, c6, c7⟩ := row8_cells HR1.out.2) | (go_at_call 37; first | ((with_reducible refine (mpage_any ge ph tg tx rt pg li A n c rt w1).mono ?_); rintro e w2 ⟨rfl, hB2⟩; rw [g5]; (have HR2 := Aside0.mk (And.intro (below_then HR1.out.1 HR1.out.1.size hB2) ((hB2.block w.heap.size (Array.getElem?_eq_some_iff.1 HR1.out.2).1).trans HR1.out.2))); clear hB2 c0 c1 c2 c3 c4 c5 c6 c7; obtain ⟨c0, c1, c2, c3, c4, c5, c6, c7⟩ := row8_cells HR2.out.2) | ((with_reducible refine (mpage_any ge ph tg tx rt pg li A n c li w2).mono ?_); rintro e w3 ⟨rfl, hB3⟩; rw [g6]; (have HR3 := Aside0.mk (below_then HR2.out.1 HR2.out.1.size hB3)); clear hB3)))
              go_ret
              exact ⟨ret_bool hv.out.symm, HR2.out.1⟩
          · have f4 : decide (pg ≤ 16384) = false := decide_eq_false h4
            have hv := Aside0.mk (show mrightB ge ph tg tx rt pg li n = false from decide_eq_false (by rintro ⟨k0, k⟩; first | exact h0 k0 | omega))
            clear h0 h1 h2 h3 h4
            go_enter Try.func13, Try.ntmps13
            go_wp2_with (first | (go_at_call 36; refine (mphase_any ge ph tg tx rt pg li A n c _ hn).mono ?_; rintro e w1 ⟨rfl, hB1⟩; rw [g0]; (have HR1 := Aside0.mk (And.intro (below_then HB.out (by simp) hB1) ((hB1.block w.heap.size (by simp)).trans hr.out))); clear hB1; obtain ⟨c0, c1, c2, c3, c4, c5, c6, c7⟩ := row8_cells HR1.out.2) | (go_at_call 37; first | ((with_reducible refine (mpage_any ge ph tg tx rt pg li A n c rt w1).mono ?_); rintro e w2 ⟨rfl, hB2⟩; rw [g5]; (have HR2 := Aside0.mk (And.intro (below_then HR1.out.1 HR1.out.1.size hB2) ((hB2.block w.heap.size (Array.getElem?_eq_some_iff.1 HR1.out.2).1).trans HR1.out.2))); clear hB2 c0 c1 c2 c3 c4 c5 c6 c7; obtain ⟨c0, c1, c2, c3, c4, c5, c6, c7⟩ := row8_cells HR2.out.2) | ((with_reducible refine (mpage_any ge ph tg tx rt pg li A n c li w2).mono ?_); rintro e w3 ⟨rfl, hB3⟩; rw [g6]; (have HR3 := Aside0.mk (below_then HR2.out.1 HR2.out.1.size hB3)); clear hB3)))
            go_ret
            exact ⟨ret_bool hv.out.symm, HR1.out.1⟩
        · have f3 : decide (3 ≤ pg) = false := decide_eq_false h3
          have hv := Aside0.mk (show mrightB ge ph tg tx rt pg li n = false from decide_eq_false (by rintro ⟨k0, k⟩; first | exact h0 k0 | omega))
          clear h0 h1 h2 h3
          go_enter Try.func13, Try.ntmps13
          go_wp2_with (first | (go_at_call 36; refine (mphase_any ge ph tg tx rt pg li A n c _ hn).mono ?_; rintro e w1 ⟨rfl, hB1⟩; rw [g0]; (have HR1 := Aside0.mk (And.intro (below_then HB.out (by simp) hB1) ((hB1.block w.heap.size (by simp)).trans hr.out))); clear hB1; obtain ⟨c0, c1, c2, c3, c4, c5, c6, c7⟩ := row8_cells HR1.out.2) | (go_at_call 37; first | ((with_reducible refine (mpage_any ge ph tg tx rt pg li A n c rt w1).mono ?_); rintro e w2 ⟨rfl, hB2⟩; rw [g5]; (have HR2 := Aside0.mk (And.intro (below_then HR1.out.1 HR1.out.1.size hB2) ((hB2.block w.heap.size (Array.getElem?_eq_some_iff.1 HR1.out.2).1).trans HR1.out.2))); clear hB2 c0 c1 c2 c3 c4 c5 c6 c7; obtain ⟨c0, c1, c2, c3, c4, c5, c6, c7⟩ := row8_cells HR2.out.2) | ((with_reducible refine (mpage_any ge ph tg tx rt pg li A n c li w2).mono ?_); rintro e w3 ⟨rfl, hB3⟩; rw [g6]; (have HR3 := Aside0.mk (below_then HR2.out.1 HR2.out.1.size hB3)); clear hB3)))
          go_ret
          exact ⟨ret_bool hv.out.symm, HR1.out.1⟩
      · have f2 : decide (tx ≤ 2147483647) = false := decide_eq_false h2
        have hv := Aside0.mk (show mrightB ge ph tg tx rt pg li n = false from decide_eq_false (by rintro ⟨k0, k⟩; first | exact h0 k0 | omega))
        clear h0 h1 h2
        go_enter Try.func13, Try.ntmps13
        go_wp2_with (first | (go_at_call 36; refine (mphase_any ge ph tg tx rt pg li A n c _ hn).mono ?_; rintro e w1 ⟨rfl, hB1⟩; rw [g0]; (have HR1 := Aside0.mk (And.intro (below_then HB.out (by simp) hB1) ((hB1.block w.heap.size (by simp)).trans hr.out))); clear hB1; obtain ⟨c0, c1, c2, c3, c4, c5, c6, c7⟩ := row8_cells HR1.out.2) | (go_at_call 37; first | ((with_reducible refine (mpage_any ge ph tg tx rt pg li A n c rt w1).mono ?_); rintro e w2 ⟨rfl, hB2⟩; rw [g5]; (have HR2 := Aside0.mk (And.intro (below_then HR1.out.1 HR1.out.1.size hB2) ((hB2.block w.heap.size (Array.getElem?_eq_some_iff.1 HR1.out.2).1).trans HR1.out.2))); clear hB2 c0 c1 c2 c3 c4 c5 c6 c7; obtain ⟨c0, c1, c2, c3, c4, c5, c6, c7⟩ := row8_cells HR2.out.2) | ((with_reducible refine (mpage_any ge ph tg tx rt pg li A n c li w2).mono ?_); rintro e w3 ⟨rfl, hB3⟩; rw [g6]; (have HR3 := Aside0.mk (below_then HR2.out.1 HR2.out.1.size hB3)); clear hB3)))
        go_ret
        exact ⟨ret_bool hv.out.symm, HR1.out.1⟩
    · have f1 : decide (1 ≤ tx) = false := decide_eq_false h1
      have hv := Aside0.mk (show mrightB ge ph tg tx rt pg li n = false from decide_eq_false (by rintro ⟨k0, k⟩; first | exact h0 k0 | omega))
      clear h0 h1
      go_enter Try.func13, Try.ntmps13
      go_wp2_with (first | (go_at_call 36; refine (mphase_any ge ph tg tx rt pg li A n c _ hn).mono ?_; rintro e w1 ⟨rfl, hB1⟩; rw [g0]; (have HR1 := Aside0.mk (And.intro (below_then HB.out (by simp) hB1) ((hB1.block w.heap.size (by simp)).trans hr.out))); clear hB1; obtain ⟨c0, c1, c2, c3, c4, c5, c6, c7⟩ := row8_cells HR1.out.2) | (go_at_call 37; first | ((with_reducible refine (mpage_any ge ph tg tx rt pg li A n c rt w1).mono ?_); rintro e w2 ⟨rfl, hB2⟩; rw [g5]; (have HR2 := Aside0.mk (And.intro (below_then HR1.out.1 HR1.out.1.size hB2) ((hB2.block w.heap.size (Array.getElem?_eq_some_iff.1 HR1.out.2).1).trans HR1.out.2))); clear hB2 c0 c1 c2 c3 c4 c5 c6 c7; obtain ⟨c0, c1, c2, c3, c4, c5, c6, c7⟩ := row8_cells HR2.out.2) | ((with_reducible refine (mpage_any ge ph tg tx rt pg li A n c li w2).mono ?_); rintro e w3 ⟨rfl, hB3⟩; rw [g6]; (have HR3 := Aside0.mk (below_then HR2.out.1 HR2.out.1.size hB3)); clear hB3)))
      go_ret
      exact ⟨ret_bool hv.out.symm, HR1.out.1⟩
  · have g0 := Bool.eq_false_iff.mpr h0
    have hv := Aside0.mk (show mrightB ge ph tg tx rt pg li n = false from decide_eq_false (by rintro ⟨k0, k⟩; first | exact h0 k0 | omega))
    clear h0
    go_enter Try.func13, Try.ntmps13
    go_wp2_with (first | (go_at_call 36; refine (mphase_any ge ph tg tx rt pg li A n c _ hn).mono ?_; rintro e w1 ⟨rfl, hB1⟩; rw [g0]; (have HR1 := Aside0.mk (And.intro (below_then HB.out (by simp) hB1) ((hB1.block w.heap.size (by simp)).trans hr.out))); clear hB1; obtain ⟨c0, c1, c2, c3, c4, c5, c6, c7⟩ := row8_cells HR1.out.2) | (go_at_call 37; first | ((with_reducible refine (mpage_any ge ph tg tx rt pg li A n c rt w1).mono ?_); rintro e w2 ⟨rfl, hB2⟩; rw [g5]; (have HR2 := Aside0.mk (And.intro (below_then HR1.out.1 HR1.out.1.size hB2) ((hB2.block w.heap.size (Array.getElem?_eq_some_iff.1 HR1.out.2).1).trans HR1.out.2))); clear hB2 c0 c1 c2 c3 c4 c5 c6 c7; obtain ⟨c0, c1, c2, c3, c4, c5, c6, c7⟩ := row8_cells HR2.out.2) | ((with_reducible refine (mpage_any ge ph tg tx rt pg li A n c li w2).mono ?_); rintro e w3 ⟨rfl, hB3⟩; rw [g6]; (have HR3 := Aside0.mk (below_then HR2.out.1 HR2.out.1.size hB3)); clear hB3)))
    go_ret
    exact ⟨ret_bool hv.out.symm, HR1.out.1⟩
end Go.Proofs.Ytenibcbodjkglaa
