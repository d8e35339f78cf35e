/- The walks of regaugeref09's Right and Same. The walks of regaugeref09's put and Encode. -/
import Derived.Test.YthhalmjapiempaaZ6
import Derived.Test.YthhalmjapiempaaZ2
import Derived.Test.YthhalmjapiempaaZ1
set_option linter.unusedVariables false
set_option linter.unusedSimpArgs false
namespace Go.Proofs.Ythhalmjapiempaa
open Go.RowKit

set_option maxHeartbeats 8000000 in
set_option maxRecDepth 100000 in
theorem rmright_any (ge ph tg tx rt pg li : Int) (A : Option Addr) (n c : Nat) (w : World) (hn : n ≤ 140737488355328) :
    Calls Try.prog 39 #[.agg #[.int .i64 ge, .int .i64 ph, .int .i64 tg, .int .i64 tx, .int .i64 rt, .int .i64 pg, .int .i64 li, .slice A n c]] w fun e w' => e = .returned (.bool (mrightB ge ph tg tx rt pg li n)) ∧ Below w.heap.size w w' := by
  have HB := Aside0.mk ((Below.refl w.heap.size w).alloc (Nat.le_refl _) (.cells #[.int .i64 ge, .int .i64 ph, .int .i64 tg, .int .i64 tx, .int .i64 rt, .int .i64 pg, .int .i64 li, .slice A n c] 24))
  obtain ⟨z0, z1, z2, z3, z4, z5, z6, z7⟩ := row8_cells (heap_alloc_new w (.cells #[.int .i64 ge, .int .i64 ph, .int .i64 tg, .int .i64 tx, .int .i64 rt, .int .i64 pg, .int .i64 li, .slice A n c] 24))
  clear z3 z4 z5 z6
  by_cases ha0 : ge < 1
  · have a0 : decide (ge < 1) = true := decide_eq_true ha0
    have hv := Aside0.mk (show mrightB ge ph tg tx rt pg li n = false from decide_eq_false (by rintro ⟨k0, k⟩; have k1 := of_decide_eq_true k0; omega))
    clear ha0
    go_enter Try.func39, Try.ntmps39
    go_wp2
    go_ret
    exact ⟨ret_bool hv.out.symm, HB.out⟩
  · have a0 : decide (ge < 1) = false := decide_eq_false ha0
    by_cases ha1 : 3 < ge
    · have a1 : decide (3 < ge) = true := decide_eq_true ha1
      have hv := Aside0.mk (show mrightB ge ph tg tx rt pg li n = false from decide_eq_false (by rintro ⟨k0, k⟩; have k1 := of_decide_eq_true k0; omega))
      clear ha0 ha1
      go_enter Try.func39, Try.ntmps39
      go_wp2
      go_ret
      exact ⟨ret_bool hv.out.symm, HB.out⟩
    · have a1 : decide (3 < ge) = false := decide_eq_false ha1
      by_cases ha2 : tx < 1
      · have a2 : decide (tx < 1) = true := decide_eq_true ha2
        have hv := Aside0.mk (show mrightB ge ph tg tx rt pg li n = false from decide_eq_false (by rintro ⟨k0, k⟩; have k1 := of_decide_eq_true k0; omega))
        clear ha0 ha1 ha2
        go_enter Try.func39, Try.ntmps39
        go_wp2
        go_ret
        exact ⟨ret_bool hv.out.symm, HB.out⟩
      · have a2 : decide (tx < 1) = false := decide_eq_false ha2
        by_cases ha3 : 2147483647 < tx
        · have a3 : decide (2147483647 < tx) = true := decide_eq_true ha3
          have hv := Aside0.mk (show mrightB ge ph tg tx rt pg li n = false from decide_eq_false (by rintro ⟨k0, k⟩; have k1 := of_decide_eq_true k0; omega))
          clear ha0 ha1 ha2 ha3
          go_enter Try.func39, Try.ntmps39
          go_wp2
          go_ret
          exact ⟨ret_bool hv.out.symm, HB.out⟩
        · have a3 : decide (2147483647 < tx) = false := decide_eq_false ha3
          by_cases ha4 : pg < 3
          · have a4 : decide (pg < 3) = true := decide_eq_true ha4
            have hv := Aside0.mk (show mrightB ge ph tg tx rt pg li n = false from decide_eq_false (by rintro ⟨k0, k⟩; have k1 := of_decide_eq_true k0; omega))
            clear ha0 ha1 ha2 ha3 ha4
            go_enter Try.func39, Try.ntmps39
            go_wp2
            go_ret
            exact ⟨ret_bool hv.out.symm, HB.out⟩
          · have a4 : decide (pg < 3) = false := decide_eq_false ha4
            by_cases ha5 : 16384 < pg
            · have a5 : decide (16384 < pg) = true := decide_eq_true ha5
              have hv := Aside0.mk (show mrightB ge ph tg tx rt pg li n = false from decide_eq_false (by rintro ⟨k0, k⟩; have k1 := of_decide_eq_true k0; omega))
              clear ha0 ha1 ha2 ha3 ha4 ha5
              go_enter Try.func39, Try.ntmps39
              go_wp2
              go_ret
              exact ⟨ret_bool hv.out.symm, HB.out⟩
            · have a5 : decide (16384 < pg) = false := decide_eq_false ha5
              by_cases ha6 : rt < 2
              · have a6 : decide (rt < 2) = true := decide_eq_true ha6
                have hv := Aside0.mk (show mrightB ge ph tg tx rt pg li n = false from decide_eq_false (by rintro ⟨k0, k⟩; have k1 := of_decide_eq_true k0; omega))
                clear ha0 ha1 ha2 ha3 ha4 ha5 ha6
                go_enter Try.func39, Try.ntmps39
                go_wp2
                go_ret
                exact ⟨ret_bool hv.out.symm, HB.out⟩
              · have a6 : decide (rt < 2) = false := decide_eq_false ha6
                by_cases ha7 : pg ≤ rt
                · have a7 : decide (pg ≤ rt) = true := decide_eq_true ha7
                  have hv := Aside0.mk (show mrightB ge ph tg tx rt pg li n = false from decide_eq_false (by rintro ⟨k0, k⟩; have k1 := of_decide_eq_true k0; omega))
                  clear ha0 ha1 ha2 ha3 ha4 ha5 ha6 ha7
                  go_enter Try.func39, Try.ntmps39
                  go_wp2
                  go_ret
                  exact ⟨ret_bool hv.out.symm, HB.out⟩
                · have a7 : decide (pg ≤ rt) = false := decide_eq_false ha7
                  by_cases hl : li = 0
                  · have fl : (li != 0) = false := by simp [hl]
                    by_cases hp : ph = 0
                    · have fp := eq0 ph 0 hp
                      by_cases ht : tg = 0
                      · have ft := eq0 tg 0 ht
                        by_cases hc : n = 0
                        · have fc := eq0 (n : Int) 0 (by omega)
                          have hv := Aside0.mk (show mrightB ge ph tg tx rt pg li n = true from decide_eq_true (by refine ⟨decide_eq_true ?_, ?_⟩ <;> omega))
                          clear ha0 ha1 ha2 ha3 ha4 ha5 ha6 ha7 hl hp ht hc
                          go_enter Try.func39, Try.ntmps39
                          go_wp2
                          go_ret
                          exact ⟨ret_bool hv.out.symm, HB.out⟩
                        · have fc := ne0 (n : Int) 0 (by omega)
                          have hv := Aside0.mk (show mrightB ge ph tg tx rt pg li n = false from decide_eq_false (by rintro ⟨k0, k⟩; have k1 := of_decide_eq_true k0; omega))
                          clear ha0 ha1 ha2 ha3 ha4 ha5 ha6 ha7 hl hp ht hc
                          go_enter Try.func39, Try.ntmps39
                          go_wp2
                          go_ret
                          exact ⟨ret_bool hv.out.symm, HB.out⟩
                      · have ft := ne0 tg 0 ht
                        have hv := Aside0.mk (show mrightB ge ph tg tx rt pg li n = false from decide_eq_false (by rintro ⟨k0, k⟩; have k1 := of_decide_eq_true k0; omega))
                        clear ha0 ha1 ha2 ha3 ha4 ha5 ha6 ha7 hl hp ht
                        go_enter Try.func39, Try.ntmps39
                        go_wp2
                        go_ret
                        exact ⟨ret_bool hv.out.symm, HB.out⟩
                    · have fp := ne0 ph 0 hp
                      by_cases hq : ph = 1
                      · have fq := eq0 ph 1 hq
                        by_cases he0 : ge < tg
                        · have e0 : decide (ge < tg) = true := decide_eq_true he0
                          by_cases he1 : tg < 4
                          · have e1 : decide (tg < 4) = true := decide_eq_true he1
                            by_cases he2 : (n : Int) ≤ mkI tg
                            · have e2 : decide ((n : Int) ≤ mkI tg) = true := decide_eq_true he2
                              have hv := Aside0.mk (show mrightB ge ph tg tx rt pg li n = true from decide_eq_true (by refine ⟨decide_eq_true ?_, ?_⟩ <;> omega))
                              clear ha0 ha1 ha2 ha3 ha4 ha5 ha6 ha7 hl hp hq he0 he1 he2
                              go_enter Try.func39, Try.ntmps39
                              go_wp2_with fail
                              refine wp_region_ext (by kernel_rfl) (by kernel_rfl) ?_
                              have x0 := cell_ext z0
                              have x1 := cell_ext z1
                              have x2 := cell_ext z2
                              have x7 := cell_ext z7
                              repeat (go_big_quiet_step ((go_at_call 61; exact Calls.ext_same (rMaxKey_any tg _))))
                              refine wpQuiet_nil ?_
                              rintro w' ⟨kx, rfl⟩
                              have hBk := below_then HB.out (by simp) kx.bel
                              go_wp2
                              go_ret
                              exact ⟨ret_bool hv.out.symm, hBk⟩
                            · have e2 : decide ((n : Int) ≤ mkI tg) = false := decide_eq_false he2
                              have hv := Aside0.mk (show mrightB ge ph tg tx rt pg li n = false from decide_eq_false (by rintro ⟨k0, k⟩; have k1 := of_decide_eq_true k0; omega))
                              clear ha0 ha1 ha2 ha3 ha4 ha5 ha6 ha7 hl hp hq he0 he1 he2
                              go_enter Try.func39, Try.ntmps39
                              go_wp2_with fail
                              refine wp_region_ext (by kernel_rfl) (by kernel_rfl) ?_
                              have x0 := cell_ext z0
                              have x1 := cell_ext z1
                              have x2 := cell_ext z2
                              have x7 := cell_ext z7
                              repeat (go_big_quiet_step ((go_at_call 61; exact Calls.ext_same (rMaxKey_any tg _))))
                              refine wpQuiet_nil ?_
                              rintro w' ⟨kx, rfl⟩
                              have hBk := below_then HB.out (by simp) kx.bel
                              go_wp2
                              go_ret
                              exact ⟨ret_bool hv.out.symm, hBk⟩
                          · have e1 : decide (tg < 4) = false := decide_eq_false he1
                            have hv := Aside0.mk (show mrightB ge ph tg tx rt pg li n = false from decide_eq_false (by rintro ⟨k0, k⟩; have k1 := of_decide_eq_true k0; omega))
                            clear ha0 ha1 ha2 ha3 ha4 ha5 ha6 ha7 hl hp hq he0 he1
                            go_enter Try.func39, Try.ntmps39
                            go_wp2_with fail
                            refine wp_region_ext (by kernel_rfl) (by kernel_rfl) ?_
                            have x0 := cell_ext z0
                            have x1 := cell_ext z1
                            have x2 := cell_ext z2
                            have x7 := cell_ext z7
                            repeat (go_big_quiet_step ((go_at_call 61; exact Calls.ext_same (rMaxKey_any tg _))))
                            refine wpQuiet_nil ?_
                            rintro w' ⟨kx, rfl⟩
                            have hBk := below_then HB.out (by simp) kx.bel
                            go_wp2
                            go_ret
                            exact ⟨ret_bool hv.out.symm, hBk⟩
                        · have e0 : decide (ge < tg) = false := decide_eq_false he0
                          have hv := Aside0.mk (show mrightB ge ph tg tx rt pg li n = false from decide_eq_false (by rintro ⟨k0, k⟩; have k1 := of_decide_eq_true k0; omega))
                          clear ha0 ha1 ha2 ha3 ha4 ha5 ha6 ha7 hl hp hq he0
                          go_enter Try.func39, Try.ntmps39
                          go_wp2_with fail
                          refine wp_region_ext (by kernel_rfl) (by kernel_rfl) ?_
                          have x0 := cell_ext z0
                          have x1 := cell_ext z1
                          have x2 := cell_ext z2
                          have x7 := cell_ext z7
                          repeat (go_big_quiet_step ((go_at_call 61; exact Calls.ext_same (rMaxKey_any tg _))))
                          refine wpQuiet_nil ?_
                          rintro w' ⟨kx, rfl⟩
                          have hBk := below_then HB.out (by simp) kx.bel
                          go_wp2
                          go_ret
                          exact ⟨ret_bool hv.out.symm, hBk⟩
                      · have fq := ne0 ph 1 hq
                        have hv := Aside0.mk (show mrightB ge ph tg tx rt pg li n = false from decide_eq_false (by rintro ⟨k0, k⟩; have k1 := of_decide_eq_true k0; omega))
                        clear ha0 ha1 ha2 ha3 ha4 ha5 ha6 ha7 hl hp hq
                        go_enter Try.func39, Try.ntmps39
                        go_wp2_with fail
                        refine wp_region_ext (by kernel_rfl) (by kernel_rfl) ?_
                        have x0 := cell_ext z0
                        have x1 := cell_ext z1
                        have x2 := cell_ext z2
                        have x7 := cell_ext z7
                        repeat (go_big_quiet_step ((go_at_call 61; exact Calls.ext_same (rMaxKey_any tg _))))
                        refine wpQuiet_nil ?_
                        rintro w' ⟨kx, rfl⟩
                        have hBk := below_then HB.out (by simp) kx.bel
                        go_wp2
                        go_ret
                        exact ⟨ret_bool hv.out.symm, hBk⟩
                  · have fl : (li != 0) = true := by simp [hl]
                    by_cases hm : li < 2
                    · have fm : decide (li < 2) = true := decide_eq_true hm
                      have hv := Aside0.mk (show mrightB ge ph tg tx rt pg li n = false from decide_eq_false (by rintro ⟨k0, k⟩; have k1 := of_decide_eq_true k0; omega))
                      clear ha0 ha1 ha2 ha3 ha4 ha5 ha6 ha7 hl hm
                      go_enter Try.func39, Try.ntmps39
                      go_wp2
                      go_ret
                      exact ⟨ret_bool hv.out.symm, HB.out⟩
                    · have fm : decide (li < 2) = false := decide_eq_false hm
                      by_cases hn' : pg ≤ li
                      · have fn : decide (pg ≤ li) = true := decide_eq_true hn'
                        have hv := Aside0.mk (show mrightB ge ph tg tx rt pg li n = false from decide_eq_false (by rintro ⟨k0, k⟩; have k1 := of_decide_eq_true k0; omega))
                        clear ha0 ha1 ha2 ha3 ha4 ha5 ha6 ha7 hl hm hn'
                        go_enter Try.func39, Try.ntmps39
                        go_wp2
                        go_ret
                        exact ⟨ret_bool hv.out.symm, HB.out⟩
                      · have fn : decide (pg ≤ li) = false := decide_eq_false hn'
                        by_cases hp : ph = 0
                        · have fp := eq0 ph 0 hp
                          by_cases ht : tg = 0
                          · have ft := eq0 tg 0 ht
                            by_cases hc : n = 0
                            · have fc := eq0 (n : Int) 0 (by omega)
                              have hv := Aside0.mk (show mrightB ge ph tg tx rt pg li n = true from decide_eq_true (by refine ⟨decide_eq_true ?_, ?_⟩ <;> omega))
                              clear ha0 ha1 ha2 ha3 ha4 ha5 ha6 ha7 hl hm hn' hp ht hc
                              go_enter Try.func39, Try.ntmps39
                              go_wp2
                              go_ret
                              exact ⟨ret_bool hv.out.symm, HB.out⟩
                            · have fc := ne0 (n : Int) 0 (by omega)
                              have hv := Aside0.mk (show mrightB ge ph tg tx rt pg li n = false from decide_eq_false (by rintro ⟨k0, k⟩; have k1 := of_decide_eq_true k0; omega))
                              clear ha0 ha1 ha2 ha3 ha4 ha5 ha6 ha7 hl hm hn' hp ht hc
                              go_enter Try.func39, Try.ntmps39
                              go_wp2
                              go_ret
                              exact ⟨ret_bool hv.out.symm, HB.out⟩
                          · have ft := ne0 tg 0 ht
                            have hv := Aside0.mk (show mrightB ge ph tg tx rt pg li n = false from decide_eq_false (by rintro ⟨k0, k⟩; have k1 := of_decide_eq_true k0; omega))
                            clear ha0 ha1 ha2 ha3 ha4 ha5 ha6 ha7 hl hm hn' hp ht
                            go_enter Try.func39, Try.ntmps39
                            go_wp2
                            go_ret
                            exact ⟨ret_bool hv.out.symm, HB.out⟩
                        · have fp := ne0 ph 0 hp
                          by_cases hq : ph = 1
                          · have fq := eq0 ph 1 hq
                            by_cases he0 : ge < tg
                            · have e0 : decide (ge < tg) = true := decide_eq_true he0
                              by_cases he1 : tg < 4
                              · have e1 : decide (tg < 4) = true := decide_eq_true he1
                                by_cases he2 : (n : Int) ≤ mkI tg
                                · have e2 : decide ((n : Int) ≤ mkI tg) = true := decide_eq_true he2
                                  have hv := Aside0.mk (show mrightB ge ph tg tx rt pg li n = true from decide_eq_true (by refine ⟨decide_eq_true ?_, ?_⟩ <;> omega))
                                  clear ha0 ha1 ha2 ha3 ha4 ha5 ha6 ha7 hl hm hn' hp hq he0 he1 he2
                                  go_enter Try.func39, Try.ntmps39
                                  go_wp2_with fail
                                  refine wp_region_ext (by kernel_rfl) (by kernel_rfl) ?_
                                  have x0 := cell_ext z0
                                  have x1 := cell_ext z1
                                  have x2 := cell_ext z2
                                  have x7 := cell_ext z7
                                  repeat (go_big_quiet_step ((go_at_call 61; exact Calls.ext_same (rMaxKey_any tg _))))
                                  refine wpQuiet_nil ?_
                                  rintro w' ⟨kx, rfl⟩
                                  have hBk := below_then HB.out (by simp) kx.bel
                                  go_wp2
                                  go_ret
                                  exact ⟨ret_bool hv.out.symm, hBk⟩
                                · have e2 : decide ((n : Int) ≤ mkI tg) = false := decide_eq_false he2
                                  have hv := Aside0.mk (show mrightB ge ph tg tx rt pg li n = false from decide_eq_false (by rintro ⟨k0, k⟩; have k1 := of_decide_eq_true k0; omega))
                                  clear ha0 ha1 ha2 ha3 ha4 ha5 ha6 ha7 hl hm hn' hp hq he0 he1 he2
                                  go_enter Try.func39, Try.ntmps39
                                  go_wp2_with fail
                                  refine wp_region_ext (by kernel_rfl) (by kernel_rfl) ?_
                                  have x0 := cell_ext z0
                                  have x1 := cell_ext z1
                                  have x2 := cell_ext z2
                                  have x7 := cell_ext z7
                                  repeat (go_big_quiet_step ((go_at_call 61; exact Calls.ext_same (rMaxKey_any tg _))))
                                  refine wpQuiet_nil ?_
                                  rintro w' ⟨kx, rfl⟩
                                  have hBk := below_then HB.out (by simp) kx.bel
                                  go_wp2
                                  go_ret
                                  exact ⟨ret_bool hv.out.symm, hBk⟩
                              · have e1 : decide (tg < 4) = false := decide_eq_false he1
                                have hv := Aside0.mk (show mrightB ge ph tg tx rt pg li n = false from decide_eq_false (by rintro ⟨k0, k⟩; have k1 := of_decide_eq_true k0; omega))
                                clear ha0 ha1 ha2 ha3 ha4 ha5 ha6 ha7 hl hm hn' hp hq he0 he1
                                go_enter Try.func39, Try.ntmps39
                                go_wp2_with fail
                                refine wp_region_ext (by kernel_rfl) (by kernel_rfl) ?_
                                have x0 := cell_ext z0
                                have x1 := cell_ext z1
                                have x2 := cell_ext z2
                                have x7 := cell_ext z7
                                repeat (go_big_quiet_step ((go_at_call 61; exact Calls.ext_same (rMaxKey_any tg _))))
                                refine wpQuiet_nil ?_
                                rintro w' ⟨kx, rfl⟩
                                have hBk := below_then HB.out (by simp) kx.bel
                                go_wp2
                                go_ret
                                exact ⟨ret_bool hv.out.symm, hBk⟩
                            · have e0 : decide (ge < tg) = false := decide_eq_false he0
                              have hv := Aside0.mk (show mrightB ge ph tg tx rt pg li n = false from decide_eq_false (by rintro ⟨k0, k⟩; have k1 := of_decide_eq_true k0; omega))
                              clear ha0 ha1 ha2 ha3 ha4 ha5 ha6 ha7 hl hm hn' hp hq he0
                              go_enter Try.func39, Try.ntmps39
                              go_wp2_with fail
                              refine wp_region_ext (by kernel_rfl) (by kernel_rfl) ?_
                              have x0 := cell_ext z0
                              have x1 := cell_ext z1
                              have x2 := cell_ext z2
                              have x7 := cell_ext z7
                              repeat (go_big_quiet_step ((go_at_call 61; exact Calls.ext_same (rMaxKey_any tg _))))
                              refine wpQuiet_nil ?_
                              rintro w' ⟨kx, rfl⟩
                              have hBk := below_then HB.out (by simp) kx.bel
                              go_wp2
                              go_ret
                              exact ⟨ret_bool hv.out.symm, hBk⟩
                          · have fq := ne0 ph 1 hq
                            have hv := Aside0.mk (show mrightB ge ph tg tx rt pg li n = false from decide_eq_false (by rintro ⟨k0, k⟩; have k1 := of_decide_eq_true k0; omega))
                            clear ha0 ha1 ha2 ha3 ha4 ha5 ha6 ha7 hl hm hn' hp hq
                            go_enter Try.func39, Try.ntmps39
                            go_wp2_with fail
                            refine wp_region_ext (by kernel_rfl) (by kernel_rfl) ?_
                            have x0 := cell_ext z0
                            have x1 := cell_ext z1
                            have x2 := cell_ext z2
                            have x7 := cell_ext z7
                            repeat (go_big_quiet_step ((go_at_call 61; exact Calls.ext_same (rMaxKey_any tg _))))
                            refine wpQuiet_nil ?_
                            rintro w' ⟨kx, rfl⟩
                            have hBk := below_then HB.out (by simp) kx.bel
                            go_wp2
                            go_ret
                            exact ⟨ret_bool hv.out.symm, hBk⟩

end Go.Proofs.Ythhalmjapiempaa

set_option linter.unusedVariables false
set_option linter.unusedSimpArgs false
namespace Go.Proofs.Ythhalmjapiempaa
open Go.RowKit

set_option maxHeartbeats 4000000 in
set_option maxRecDepth 100000 in
theorem rput9_any (base : Nat) (A : Option Addr) (n0 c0 : Nat) (xs : List UInt8) (n : Int) (m : Nat) (w : World) (k3 : 0 ≤ n) (k4 : n ≤ 9223372036854775807) (hm8 : m ≤ 8) (hn0 : n0 ≤ 1000) (hb : base ≤ w.heap.size) (hO0 : Ow w base A n0 c0 xs) :
    Calls Try.prog 80 #[.slice A n0 c0, .int .i64 n, .int .i64 (m : Int)] w fun e w' => ∃ A' c', e = .returned (.slice A' (n0 + m) c') ∧ Ow w' base A' (n0 + m) c' (xs ++ le8 n m) ∧ Below base w w' := by
  have HO0 := Aside0.mk hO0
  clear hO0
  go_enter Try.func80, Try.ntmps80
  go_wp2_with fail
  go_loopg [0, 1, 7] m (fun k v0 v1 v7 wr => ∃ j : Nat, Aside (k + j = m) ∧ v1 = .int .i64 (n / 256 ^ j) ∧ v7 = .int .i64 (j : Int) ∧ ∃ A7 c7, v0 = .slice A7 (n0 + j) c7 ∧ Aside0 (Ow wr base A7 (n0 + j) c7 (xs ++ le8 n j)) ∧ Aside0 (Below base w wr))
  case atStart => exact ⟨0, rfl, by simp, rfl, A, c0, rfl, ⟨by rw [le8, List.append_nil]; exact HO0.out⟩, ⟨Below.refl _ _⟩⟩
  case round =>
    obtain ⟨j, hk, rfl, rfl, A7, c7, rfl, hO, hB⟩ := hrel
    have hjb : j ≤ m := by have := hk.out; omega
    by_cases hlt : j < m
    · have hjn : (j : Int) < (m : Int) := by omega
      obtain ⟨q0, q1⟩ := div_pow_bound (n := n) k3 k4 j
      obtain ⟨q, hq⟩ : ∃ q, n / 256 ^ j = q := ⟨_, rfl⟩
      rw [hq] at q0 q1 ⊢
      obtain ⟨y, hy⟩ : ∃ y, UInt8.ofNat (q % 256).toNat = y := ⟨_, rfl⟩
      have hyv : q % 256 = (y.toNat : Int) := by rw [← hy, UInt8.toNat_ofNat']; omega
      have hz : (xs ++ le8 n j) ++ [y] = xs ++ le8 n (j + 1) := by rw [List.append_assoc, ← hy, ← hq]; rfl
      have hq' : n / 256 ^ (j + 1) = q / 256 := by rw [← div_pow_succ, hq]
      have hsz : base ≤ wr.heap.size := Nat.le_trans hb hB.out.size
      have HL := Aside0.mk (Bs.lit wr wr.heap.size rfl #[.int .u8 (q % 256)] 5 (0, 0) 1 1 [y] (by rw [hyv]; rfl) rfl (Nat.le_refl _) (by omega) (by omega))
      have HZ := Aside0.mk (And.intro hz (And.intro hq' hsz))
      clear hy hyv hz hq' hq hsz
      go_wp2_with (at_builtin; (refine wpl_a8 (w0 := w) base rfl _ _ rfl _ (n0 + j) c7 (xs ++ le8 n j) _ 1 1 [y] (n0 + (j + 1)) (xs ++ le8 n (j + 1)) rfl rfl (hO.out.alloc _) HL.out (below_alloc hB.out HZ.out.2.2 _) (by simp; exact Nat.le_succ_of_le HZ.out.2.2) (by omega) (by omega) HZ.out.1 ?_); intro A8 c8 w8 hO8 hB8)
      go_roundg (m - (j + 1))
      case measure => have := hk.out; omega
      case rel => exact ⟨j + 1, by have := hk.out; exact (show m - (j + 1) + (j + 1) = m by omega), by rw [HZ.out.2.1], by go_num, A8, c8, rfl, hO8, hB8⟩
    · obtain rfl : j = m := by omega
      go_wp2_with fail
      go_ret
      exact ⟨A7, c7, rfl, hO.out, hB.out⟩

set_option maxHeartbeats 4000000 in
set_option maxRecDepth 100000 in
def hdrL (ge ph tg : Int) (n : Nat) : List UInt8 := magicL ++ (le8 ge 1 ++ (le8 ph 1 ++ (le8 tg 1 ++ le8 (n : Int) 1)))
theorem b1 (x : Int) : (((UInt8.ofNat (x / 256 ^ 0 % 256).toNat).toNat : Nat) : Int) = x % 256 := by
  rw [UInt8.toNat_ofNat', Int.pow_zero, Int.ediv_one]
  omega
theorem hdr_lit (ge ph tg : Int) (n : Nat) : (#[.int .u8 82, .int .u8 71, .int .u8 65, .int .u8 85, .int .u8 (ge % 256), .int .u8 (ph % 256), .int .u8 (tg % 256), .int .u8 ((n : Int) % 256)] : Array Value).toList = u8v (hdrL ge ph tg n) := by
  unfold hdrL magicL le8 le8 u8v
  simp only [List.nil_append, List.cons_append, List.map_cons, List.map_nil, b1]
  rfl
theorem hdrL_len (ge ph tg : Int) (n : Nat) : (hdrL ge ph tg n).length = 8 := by simp [hdrL, magicL, le8_length]
def bodyL (ge ph tg tx rt pg li : Int) (xs : List UInt8) : List UInt8 := ((((hdrL ge ph tg xs.length ++ le8 tx (iwI ge).toNat) ++ le8 rt (iwI ge).toNat) ++ le8 pg (iwI ge).toNat) ++ le8 li (iwI ge).toNat) ++ xs
def encR (ge ph tg tx rt pg li : Int) (xs : List UInt8) : List UInt8 := rsealB ((bodyL ge ph tg tx rt pg li xs ++ List.replicate (248 - (bodyL ge ph tg tx rt pg li xs).length) 0) ++ (tailL ++ [0, 0, 0, 0])) 252
set_option maxHeartbeats 4000000 in
set_option maxRecDepth 100000 in
theorem rencode_any (ge ph tg tx rt pg li : Int) (A : Option Addr) (n c : Nat) (xs : List UInt8) (w : World) (hb : Bs w A n c xs) :
    Calls Try.prog 57 #[.agg #[.int .i64 ge, .int .i64 ph, .int .i64 tg, .int .i64 tx, .int .i64 rt, .int .i64 pg, .int .i64 li, .slice A n c]] w fun e w' => Below w.heap.size w w' ∧
      ((mrightB ge ph tg tx rt pg li n = false ∧ e = .returned (.tuple #[.slice none 0 0, .int .i64 92])) ∨
       (mrightB ge ph tg tx rt pg li n = true ∧ ∃ A' c', e = .returned (.tuple #[.slice A' (encR ge ph tg tx rt pg li xs).length c', .int .i64 0]) ∧ Ow w' w.heap.size A' (encR ge ph tg tx rt pg li xs).length c' (encR ge ph tg tx rt pg li xs))) := by
  have hn := hb.lim
  obtain rfl := hb.len
  have HB := Aside0.mk ((Below.refl w.heap.size w).alloc (Nat.le_refl _) (.cells #[.int .i64 ge, .int .i64 ph, .int .i64 tg, .int .i64 tx, .int .i64 rt, .int .i64 pg, .int .i64 li, .slice A xs.length c] 24))
  have hr := Aside0.mk (heap_alloc_new w (.cells #[.int .i64 ge, .int .i64 ph, .int .i64 tg, .int .i64 tx, .int .i64 rt, .int .i64 pg, .int .i64 li, .slice A xs.length c] 24))
  have HX := Aside0.mk hb
  clear hb
  cases hR : mrightB ge ph tg tx rt pg li xs.length with
  | false =>
    go_enter Try.func57, Try.ntmps57
    go_wp2_with (go_at_call 39; refine (rmright_any ge ph tg tx rt pg li A xs.length c _ hn).mono ?_; rintro e w1 ⟨rfl, hB1⟩; rw [hR])
    go_ret2
    exact ⟨below_then HB.out (by simp) hB1, .inl ⟨trivial, rfl⟩⟩
  | true =>
    have BD := Aside0.mk (right_bounds hR)
    have hge : 1 ≤ ge ∧ ge ≤ 3 := by have := BD.out; omega
    obtain ⟨wd, hwd8, hwd⟩ : ∃ wd : Nat, iwI ge = (wd : Int) ∧ wd ≤ 8 := by
      rcases (show ge = 1 ∨ ge = 2 ∨ ge = 3 by omega) with rfl | rfl | rfl
      · exact ⟨4, by decide, by omega⟩
      · exact ⟨8, by decide, by omega⟩
      · exact ⟨8, by decide, by omega⟩
    clear hge
    go_enter Try.func57, Try.ntmps57
    go_wp2_with (first
      | (go_at_call 39; refine (rmright_any ge ph tg tx rt pg li A xs.length c _ hn).mono ?_; rintro e w1 ⟨rfl, hB1⟩; rw [hR]; (have H1 := Aside0.mk (And.intro (below_then HB.out (by simp) hB1) ((hB1.block w.heap.size (by simp)).trans hr.out))); clear hB1; obtain ⟨z0, z1, z2, z3, z4, z5, z6, z7⟩ := row8_cells H1.out.2)
      | (go_at_call 79; refine (rIdWidth_any ge _).mono ?_; rintro e w2 ⟨rfl, rfl⟩; rw [hwd8]))
    have HN := Aside0.mk (show w.heap.size < w1.heap.size from (Array.getElem?_eq_some_iff.1 H1.out.2).1)
    have R0 := (Below.heap_alloc w1 (.cells #[.int .u8 82, .int .u8 71, .int .u8 65, .int .u8 85, .int .u8 (ge % 256), .int .u8 (ph % 256), .int .u8 (tg % 256), .int .u8 ((xs.length : Int) % 256)] 5) w.heap.size HN.out).trans H1.out.2
    have O0 : Ow (w1.alloc (.cells #[.int .u8 82, .int .u8 71, .int .u8 65, .int .u8 85, .int .u8 (ge % 256), .int .u8 (ph % 256), .int .u8 (tg % 256), .int .u8 ((xs.length : Int) % 256)] 5)).drew w1.heap.size (some ⟨w1.heap.size, 0, none⟩) 8 8 (hdrL ge ph tg xs.length) := by
      have h := World.ownsRow_lit (base := w1.heap.size) (e := 5) (size := 1) w1 #[.int .u8 82, .int .u8 71, .int .u8 65, .int .u8 85, .int .u8 (ge % 256), .int .u8 (ph % 256), .int .u8 (tg % 256), .int .u8 ((xs.length : Int) % 256)] 8 (Nat.le_refl _) (by decide) rfl
      rw [hdr_lit] at h
      exact ⟨h, by omega⟩
    have S0 : w1.heap.size ≤ (w1.alloc (.cells #[.int .u8 82, .int .u8 71, .int .u8 65, .int .u8 85, .int .u8 (ge % 256), .int .u8 (ph % 256), .int .u8 (tg % 256), .int .u8 ((xs.length : Int) % 256)] 5)).drew.heap.size := by simp
    have T0 : Below w1.heap.size w1 (w1.alloc (.cells #[.int .u8 82, .int .u8 71, .int .u8 65, .int .u8 85, .int .u8 (ge % 256), .int .u8 (ph % 256), .int .u8 (tg % 256), .int .u8 ((xs.length : Int) % 256)] 5)).drew := below_drew ((Below.refl _ _).alloc (Nat.le_refl _) _)
    clear z0 z1 z2 z3 z4 z5 z6 z7
    obtain ⟨_, _, _, z3, z4, z5, z6, z7⟩ := row8_cells R0
    refine wp_region_held_drew (S := (fun w' => w'.cell? ⟨w.heap.size, 3, none⟩ = some (.int .i64 tx) ∧ w'.cell? ⟨w.heap.size, 4, none⟩ = some (.int .i64 rt) ∧ w'.cell? ⟨w.heap.size, 5, none⟩ = some (.int .i64 pg) ∧ w'.cell? ⟨w.heap.size, 6, none⟩ = some (.int .i64 li))) (by kernel_rfl) ⟨z3, z4, z5, z6⟩ (fun hHeld => ?_)
    refine wpAnyH_take (i := 0) (v := ?_) (by simp only [List.getElem?_toArray, List.getElem?_cons_succ, List.getElem?_cons_zero]; rfl) (by kernel_rfl) (by kernel_rfl) (by kernel_rfl) (by exact fun _ _ _ h => h) (Or.inl ⟨by rfl, ?_⟩) hHeld ?_
    rotate_left
    · (intro w' hSw; (try dsimp only at hSw); go_simp; try with_reducible rfl)
    try simp only [Act.put, List.setIfInBounds_toArray, List.set_cons_zero, List.set_cons_succ]
    refine wpAnyH_take (i := 1) (v := ?_) (by simp only [List.getElem?_toArray, List.getElem?_cons_succ, List.getElem?_cons_zero]; rfl) (by kernel_rfl) (by kernel_rfl) (by kernel_rfl) (by exact fun _ _ _ h => h) (Or.inl ⟨by rfl, ?_⟩) hHeld ?_
    rotate_left
    · (intro w' hSw; (try dsimp only at hSw); go_simp; try with_reducible rfl)
    try simp only [Act.put, List.setIfInBounds_toArray, List.set_cons_zero, List.set_cons_succ]
    refine wpAnyH_take (i := 2) (v := ?_) (by simp only [List.getElem?_toArray, List.getElem?_cons_succ, List.getElem?_cons_zero]; rfl) (by kernel_rfl) (by kernel_rfl) (by kernel_rfl) (by exact fun _ _ _ h => h) (Or.inl ⟨by rfl, ?_⟩) hHeld ?_
    rotate_left
    · (intro w' hSw; (try dsimp only at hSw); go_simp; try with_reducible rfl)
    try simp only [Act.put, List.setIfInBounds_toArray, List.set_cons_zero, List.set_cons_succ]
    refine wpAnyH_take (i := 3) (v := ?_) (by simp only [List.getElem?_toArray, List.getElem?_cons_succ, List.getElem?_cons_zero]; rfl) (by kernel_rfl) (by kernel_rfl) (by kernel_rfl) (by exact fun _ _ _ h => h) (Or.inl ⟨by rfl, ?_⟩) hHeld ?_
    rotate_left
    · (intro w' hSw; (try dsimp only at hSw); go_simp; try with_reducible rfl)
    try simp only [Act.put, List.setIfInBounds_toArray, List.set_cons_zero, List.set_cons_succ]
    refine wpAnyH_take (i := 5) (v := ?_) (by simp only [List.getElem?_toArray, List.getElem?_cons_succ, List.getElem?_cons_zero]; rfl) (by kernel_rfl) (by kernel_rfl) (by kernel_rfl) (by exact fun _ _ _ h => h) (Or.inl ⟨by rfl, ?_⟩) hHeld ?_
    rotate_left
    · (intro w' hSw; (try dsimp only at hSw); go_simp; try with_reducible rfl)
    try simp only [Act.put, List.setIfInBounds_toArray, List.set_cons_zero, List.set_cons_succ]
    refine wpAnyH_take (i := 6) (v := ?_) (by simp only [List.getElem?_toArray, List.getElem?_cons_succ, List.getElem?_cons_zero]; rfl) (by kernel_rfl) (by kernel_rfl) (by kernel_rfl) (by exact fun _ _ _ h => h) (Or.inl ⟨by rfl, ?_⟩) hHeld ?_
    rotate_left
    · (intro w' hSw; (try dsimp only at hSw); go_simp; try with_reducible rfl)
    try simp only [Act.put, List.setIfInBounds_toArray, List.set_cons_zero, List.set_cons_succ]
    refine wpAnyH_take (i := 7) (v := ?_) (by simp only [List.getElem?_toArray, List.getElem?_cons_succ, List.getElem?_cons_zero]; rfl) (by kernel_rfl) (by kernel_rfl) (by kernel_rfl) (by exact fun _ _ _ h => h) (Or.inl ⟨by rfl, ?_⟩) hHeld ?_
    rotate_left
    · (intro w' hSw; (try dsimp only at hSw); go_simp; try with_reducible rfl)
    try simp only [Act.put, List.setIfInBounds_toArray, List.set_cons_zero, List.set_cons_succ]
    refine wpAnyH_take (i := 9) (v := ?_) (by simp only [List.getElem?_toArray, List.getElem?_cons_succ, List.getElem?_cons_zero]; rfl) (by kernel_rfl) (by kernel_rfl) (by kernel_rfl) (by exact fun _ _ _ h => h) (Or.inl ⟨by rfl, ?_⟩) hHeld ?_
    rotate_left
    · (intro w' hSw; (try dsimp only at hSw); go_simp; try with_reducible rfl)
    try simp only [Act.put, List.setIfInBounds_toArray, List.set_cons_zero, List.set_cons_succ]
    refine wpAnyH_take (i := 10) (v := ?_) (by simp only [List.getElem?_toArray, List.getElem?_cons_succ, List.getElem?_cons_zero]; rfl) (by kernel_rfl) (by kernel_rfl) (by kernel_rfl) (by exact fun _ _ _ h => h) (Or.inl ⟨by rfl, ?_⟩) hHeld ?_
    rotate_left
    · (intro w' hSw; (try dsimp only at hSw); go_simp; try with_reducible rfl)
    try simp only [Act.put, List.setIfInBounds_toArray, List.set_cons_zero, List.set_cons_succ]
    refine wpAnyH_take (i := 11) (v := ?_) (by simp only [List.getElem?_toArray, List.getElem?_cons_succ, List.getElem?_cons_zero]; rfl) (by kernel_rfl) (by kernel_rfl) (by kernel_rfl) (by exact fun _ _ _ h => h) (Or.inl ⟨by rfl, ?_⟩) hHeld ?_
    rotate_left
    · (intro w' hSw; (try dsimp only at hSw); go_simp; try with_reducible rfl)
    try simp only [Act.put, List.setIfInBounds_toArray, List.set_cons_zero, List.set_cons_succ]
    refine wpAnyH_take (i := 13) (v := ?_) (by simp only [List.getElem?_toArray, List.getElem?_cons_succ, List.getElem?_cons_zero]; rfl) (by kernel_rfl) (by kernel_rfl) (by kernel_rfl) (by exact fun _ _ _ h => h) (Or.inl ⟨by rfl, ?_⟩) hHeld ?_
    rotate_left
    · (intro w' hSw; (try dsimp only at hSw); go_simp; try with_reducible rfl)
    try simp only [Act.put, List.setIfInBounds_toArray, List.set_cons_zero, List.set_cons_succ]
    refine wpAnyH_take (i := 14) (v := ?_) (by simp only [List.getElem?_toArray, List.getElem?_cons_succ, List.getElem?_cons_zero]; rfl) (by kernel_rfl) (by kernel_rfl) (by kernel_rfl) (by exact fun _ _ _ h => h) (Or.inl ⟨by rfl, ?_⟩) hHeld ?_
    rotate_left
    · (intro w' hSw; (try dsimp only at hSw); go_simp; try with_reducible rfl)
    try simp only [Act.put, List.setIfInBounds_toArray, List.set_cons_zero, List.set_cons_succ]
    refine wpAnyH_take (i := 15) (v := ?_) (by simp only [List.getElem?_toArray, List.getElem?_cons_succ, List.getElem?_cons_zero]; rfl) (by kernel_rfl) (by kernel_rfl) (by kernel_rfl) (by exact fun _ _ _ h => h) (Or.inl ⟨by rfl, ?_⟩) hHeld ?_
    rotate_left
    · (intro w' hSw; (try dsimp only at hSw); go_simp; try with_reducible rfl)
    try simp only [Act.put, List.setIfInBounds_toArray, List.set_cons_zero, List.set_cons_succ]
    refine wpAnyH_ready (rs := [4]) (by kernel_rfl) (by simp) ?_
    refine AllReadyH.cons (by simp only [List.getElem?_toArray, List.getElem?_cons_succ, List.getElem?_cons_zero]; rfl) (fun K hK => ?_) AllReadyH.nil
    rw [if_pos (by rfl)]
    go_simp
    refine (rput9_any w1.heap.size (some ⟨w1.heap.size, 0, none⟩) (8) 8 (hdrL ge ph tg xs.length) tx wd _ (by have := BD.out; omega) (by have := BD.out; omega) hwd (by omega) S0 O0).mono ?_
    rintro e w4 ⟨A1, c1, rfl, O1, hB1⟩
    have R1 := (hB1.block w.heap.size HN.out).trans R0
    have S1 := Nat.le_trans S0 hB1.size
    have T1 := T0.trans hB1
    clear z3 z4 z5 z6 z7
    obtain ⟨_, _, _, z3, z4, z5, z6, z7⟩ := row8_cells R1
    dsimp only
    refine hK.out _ _ ⟨z3, z4, z5, z6⟩ (fun hHeld => ?_)
    clear hK K
    try simp only [Act.put, List.setIfInBounds_toArray, List.set_cons_zero, List.set_cons_succ]
    refine wpAnyH_ready (rs := [8]) (by kernel_rfl) (by simp) ?_
    refine AllReadyH.cons (by simp only [List.getElem?_toArray, List.getElem?_cons_succ, List.getElem?_cons_zero]; rfl) (fun K hK => ?_) AllReadyH.nil
    rw [if_pos (by rfl)]
    go_simp
    refine (rput9_any w1.heap.size A1 (8 + wd) c1 (hdrL ge ph tg xs.length ++ le8 tx wd) rt wd _ (by have := BD.out; omega) (by have := BD.out; omega) hwd (by omega) S1 O1).mono ?_
    rintro e w5 ⟨A2, c2, rfl, O2, hB2⟩
    have R2 := (hB2.block w.heap.size HN.out).trans R1
    have S2 := Nat.le_trans S1 hB2.size
    have T2 := T1.trans hB2
    clear z3 z4 z5 z6 z7
    obtain ⟨_, _, _, z3, z4, z5, z6, z7⟩ := row8_cells R2
    dsimp only
    refine hK.out _ _ ⟨z3, z4, z5, z6⟩ (fun hHeld => ?_)
    clear hK K
    try simp only [Act.put, List.setIfInBounds_toArray, List.set_cons_zero, List.set_cons_succ]
    refine wpAnyH_ready (rs := [12]) (by kernel_rfl) (by simp) ?_
    refine AllReadyH.cons (by simp only [List.getElem?_toArray, List.getElem?_cons_succ, List.getElem?_cons_zero]; rfl) (fun K hK => ?_) AllReadyH.nil
    rw [if_pos (by rfl)]
    go_simp
    refine (rput9_any w1.heap.size A2 (8 + wd + wd) c2 ((hdrL ge ph tg xs.length ++ le8 tx wd) ++ le8 rt wd) pg wd _ (by have := BD.out; omega) (by have := BD.out; omega) hwd (by omega) S2 O2).mono ?_
    rintro e w6 ⟨A3, c3, rfl, O3, hB3⟩
    have R3 := (hB3.block w.heap.size HN.out).trans R2
    have S3 := Nat.le_trans S2 hB3.size
    have T3 := T2.trans hB3
    clear z3 z4 z5 z6 z7
    obtain ⟨_, _, _, z3, z4, z5, z6, z7⟩ := row8_cells R3
    dsimp only
    refine hK.out _ _ ⟨z3, z4, z5, z6⟩ (fun hHeld => ?_)
    clear hK K
    try simp only [Act.put, List.setIfInBounds_toArray, List.set_cons_zero, List.set_cons_succ]
    refine wpAnyH_ready (rs := [16]) (by kernel_rfl) (by simp) ?_
    refine AllReadyH.cons (by simp only [List.getElem?_toArray, List.getElem?_cons_succ, List.getElem?_cons_zero]; rfl) (fun K hK => ?_) AllReadyH.nil
    rw [if_pos (by rfl)]
    go_simp
    refine (rput9_any w1.heap.size A3 (8 + wd + wd + wd) c3 (((hdrL ge ph tg xs.length ++ le8 tx wd) ++ le8 rt wd) ++ le8 pg wd) li wd _ (by have := BD.out; omega) (by have := BD.out; omega) hwd (by omega) S3 O3).mono ?_
    rintro e w7 ⟨A4, c4, rfl, O4, hB4⟩
    have R4 := (hB4.block w.heap.size HN.out).trans R3
    have S4 := Nat.le_trans S3 hB4.size
    have T4 := T3.trans hB4
    clear z3 z4 z5 z6 z7
    obtain ⟨_, _, _, z3, z4, z5, z6, z7⟩ := row8_cells R4
    dsimp only
    refine hK.out _ _ ⟨z3, z4, z5, z6⟩ (fun hHeld => ?_)
    clear hK K
    try simp only [Act.put, List.setIfInBounds_toArray, List.set_cons_zero, List.set_cons_succ]
    refine wpAnyH_take (i := 17) (v := ?_) (by simp only [List.getElem?_toArray, List.getElem?_cons_succ, List.getElem?_cons_zero]; rfl) (by kernel_rfl) (by kernel_rfl) (by kernel_rfl) (by exact fun _ _ _ h => h) (Or.inl ⟨by rfl, ?_⟩) hHeld ?_
    rotate_left
    · (intro w' hSw; (try dsimp only at hSw); go_simp; try with_reducible rfl)
    try simp only [Act.put, List.setIfInBounds_toArray, List.set_cons_zero, List.set_cons_succ]
    refine wpAnyH_done (by kernel_rfl) ?_ _
    have hbody : ((((hdrL ge ph tg xs.length ++ le8 tx wd) ++ le8 rt wd) ++ le8 pg wd) ++ le8 li wd) ++ xs = bodyL ge ph tg tx rt pg li xs := by unfold bodyL; rw [hwd8]; rfl
    have hblen : (bodyL ge ph tg tx rt pg li xs).length = 8 + wd + wd + wd + wd + xs.length := by rw [← hbody]; simp only [List.length_append, le8_length, hdrL_len]
    have hX7 := HX.out.map (w1 := w7) fun a v k => ((H1.out.1.trans (T4.mono H1.out.1.size)).cell (World.block_lt_of_cell? w a k)).trans k
    have hx24 : xs.length ≤ 24 := by have := BD.out; omega
    have HP := Aside0.mk (And.intro hbody (And.intro hblen (And.intro hX7 (And.intro O4 (And.intro T4 S4)))))
    clear hbody hblen hX7 O0 O1 O2 O3 O4 T0 T1 T2 T3 T4 S0 S1 S2 S3 S4 R0 R1 R2 R3 R4 hB1 hB2 hB3 hB4 hHeld z3 z4 z5 z6
    go_wp2_with (at_builtin; (refine wpl_a8 (w0 := w1) w1.heap.size rfl _ _ rfl _ (8 + wd + wd + wd + wd) _ _ A xs.length c xs (bodyL ge ph tg tx rt pg li xs).length (bodyL ge ph tg tx rt pg li xs) rfl rfl HP.out.2.2.2.1 HP.out.2.2.1 HP.out.2.2.2.2.1 HP.out.2.2.2.2.2 (by rw [HP.out.2.1]) (by rw [HP.out.2.1]; omega) HP.out.1 ?_); intro A5 c5 w8 hO5 hB5)
    obtain ⟨Lb, hLb⟩ : ∃ Lb, (bodyL ge ph tg tx rt pg li xs).length = Lb := ⟨_, rfl⟩
    obtain ⟨bl, hbl⟩ : ∃ bl, bodyL ge ph tg tx rt pg li xs = bl := ⟨_, rfl⟩
    have hL64 : Lb ≤ 64 := by rw [← hLb, HP.out.2.1]; omega
    rw [hLb, hbl] at hO5
    rw [hLb]
    have hE : encR ge ph tg tx rt pg li xs = rsealB ((bl ++ List.replicate (248 - Lb) 0) ++ (tailL ++ [0, 0, 0, 0])) 252 := by unfold encR; rw [hLb, hbl]
    have hbl2 : bl.length = Lb := by rw [← hbl]; exact hLb
    have HE := Aside0.mk (And.intro hE hbl2)
    clear hE hbl2 hLb hbl HP
    go_loopg [5] (248 - Lb) (fun k v wr => ∃ (p : Nat) (A6 : Option Addr) (c6 : Nat), Aside (k + (Lb + p) = 248) ∧ v = .slice A6 (Lb + p) c6 ∧ Aside0 (Ow wr w1.heap.size A6 (Lb + p) c6 (bl ++ List.replicate p 0)) ∧ Aside0 (Below w1.heap.size w1 wr))
    case atStart => exact ⟨0, A5, c5, (show 248 - Lb + (Lb + 0) = 248 by omega), rfl, ⟨by rw [List.replicate_zero, List.append_nil]; exact hO5.out⟩, hB5⟩
    case round =>
      obtain ⟨p, A6, c6, hk, rfl, hO, hB⟩ := hrel
      have hpb : Lb + p ≤ 248 := by have := hk.out; omega
      have hsz := Aside0.mk hB.out.size
      obtain ⟨q, hq⟩ : ∃ q, Lb + p = q := ⟨_, rfl⟩
      have hq' := Aside0.mk hq
      rw [hq] at hO hpb hk ⊢
      clear hq
      by_cases hlt : q < 248
      · have hjn : (q : Int) < 248 := by omega
        have HL := Aside0.mk (Bs.lit wr wr.heap.size rfl #[.int .u8 0] 5 (0, 0) 1 1 [0] rfl rfl (Nat.le_refl _) (by omega) (by omega))
        go_wp2_with (at_builtin; (refine wpl_a8 (w0 := w1) w1.heap.size rfl _ _ rfl _ q c6 (bl ++ List.replicate p 0) _ 1 1 [0] (q + 1) (bl ++ List.replicate (p + 1) 0) rfl rfl (hO.out.alloc _) HL.out (below_alloc hB.out hsz.out _) (by simp; exact Nat.le_succ_of_le hsz.out) rfl (by omega) (by rw [List.append_assoc, ← List.replicate_succ']) ?_); intro A8 c8 w9 hO8 hB8)
        go_roundg (248 - (q + 1))
        case measure => have := hk.out; omega
        case rel => exact ⟨p + 1, A8, c8, (show 248 - (q + 1) + (Lb + (p + 1)) = 248 by have := hq'.out; omega), by rw [← hq'.out]; rfl, by rw [← Nat.add_assoc, hq'.out]; exact hO8, hB8⟩
      · obtain rfl : q = 248 := by omega
        have hp : 248 - Lb = p := by have := hq'.out; omega
        have HL := Aside0.mk (Bs.lit wr wr.heap.size rfl #[.int .u8 85, .int .u8 65, .int .u8 71, .int .u8 82, .int .u8 0, .int .u8 0, .int .u8 0, .int .u8 0] 5 (0, 0) 8 8 (tailL ++ [0, 0, 0, 0]) rfl rfl (Nat.le_refl _) (by omega) (by omega))
        generalize wr = wp at hO hB hsz HL ⊢
        go_wp2_with (first | (at_builtin; (refine wpl_a8 (w0 := w1) w1.heap.size rfl _ _ rfl _ 248 c6 (bl ++ List.replicate p 0) _ 8 8 (tailL ++ [0, 0, 0, 0]) 256 ((bl ++ List.replicate p 0) ++ (tailL ++ [0, 0, 0, 0])) rfl rfl (hO.out.alloc _) HL.out (below_alloc hB.out hsz.out _) (by simp; exact Nat.le_succ_of_le hsz.out) rfl (by omega) rfl ?_); intro A8 c8 w9 hO8 hB8) | (go_at_call 81; refine (rseal_any A8 256 c8 _ 252 w9 hO8.out.bs (by omega)).mono ?_; rintro e wz ⟨A9, c9, rfl, hO9, hB9⟩; (have H9 := Aside0.mk (And.intro hO9 hB9)); clear hO9 hB9))
        go_ret2
        have hB8' := H1.out.1.trans (hB8.out.mono H1.out.1.size)
        rw [← hp] at H9
        have hl9 : (encR ge ph tg tx rt pg li xs).length = 256 := by rw [HE.out.1]; exact H9.out.1.len
        refine ⟨below_then hB8' hB8'.size H9.out.2, .inr ⟨trivial, A9, c9, ?_, ?_⟩⟩
        · rw [hl9]
          rfl
        · rw [hl9, HE.out.1]
          exact H9.out.1.mono (by have := hB8'.size; omega)

end Go.Proofs.Ythhalmjapiempaa
