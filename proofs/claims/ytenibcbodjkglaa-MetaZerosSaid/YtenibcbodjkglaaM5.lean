/- The walks of regaugeref09's Right and Same. -/
import Derived.Test.YtenibcbodjkglaaM3
import Derived.Test.YtenibcbodjkglaaI5
set_option linter.unusedVariables false
set_option linter.unusedSimpArgs false
namespace Go.Proofs.Ytenibcbodjkglaa
open Go.RowKit

set_option maxHeartbeats 8000000 in
set_option maxRecDepth 100000 in
theorem rmright_any (ge ph tg tx rt pg li : Int) (A : Option Addr) (n c : Nat) (w : World) (hn : n ≤ 140737488355328) :
    Calls Try.prog 14 #[.agg #[.int .i64 ge, .int .i64 ph, .int .i64 tg, .int .i64 tx, .int .i64 rt, .int .i64 pg, .int .i64 li, .slice A n c]] w fun e w' => e = .returned (.bool (mrightB ge ph tg tx rt pg li n)) ∧ Below w.heap.size w w' := by
  have HB := Aside0.mk ((Below.refl w.heap.size w).alloc (Nat.le_refl _) (.cells #[.int .i64 ge, .int .i64 ph, .int .i64 tg, .int .i64 tx, .int .i64 rt, .int .i64 pg, .int .i64 li, .slice A n c] 24))
  obtain ⟨z0, z1, z2, z3, z4, z5, z6, z7⟩ := row8_cells (heap_alloc_new w (.cells #[.int .i64 ge, .int .i64 ph, .int .i64 tg, .int .i64 tx, .int .i64 rt, .int .i64 pg, .int .i64 li, .slice A n c] 24))
  clear z3 z4 z5 z6
  by_cases ha0 : ge < 1
  · have a0 : decide (ge < 1) = true := decide_eq_true ha0
    have hv := Aside0.mk (show mrightB ge ph tg tx rt pg li n = false from decide_eq_false (by rintro ⟨k0, k⟩; have k1 := of_decide_eq_true k0; omega))
    clear ha0
    go_enter Try.func14, Try.ntmps14
    go_wp2
    go_ret
    exact ⟨ret_bool hv.out.symm, HB.out⟩
  · have a0 : decide (ge < 1) = false := decide_eq_false ha0
    by_cases ha1 : 3 < ge
    · have a1 : decide (3 < ge) = true := decide_eq_true ha1
      have hv := Aside0.mk (show mrightB ge ph tg tx rt pg li n = false from decide_eq_false (by rintro ⟨k0, k⟩; have k1 := of_decide_eq_true k0; omega))
      clear ha0 ha1
      go_enter Try.func14, Try.ntmps14
      go_wp2
      go_ret
      exact ⟨ret_bool hv.out.symm, HB.out⟩
    · have a1 : decide (3 < ge) = false := decide_eq_false ha1
      by_cases ha2 : tx < 1
      · have a2 : decide (tx < 1) = true := decide_eq_true ha2
        have hv := Aside0.mk (show mrightB ge ph tg tx rt pg li n = false from decide_eq_false (by rintro ⟨k0, k⟩; have k1 := of_decide_eq_true k0; omega))
        clear ha0 ha1 ha2
        go_enter Try.func14, Try.ntmps14
        go_wp2
        go_ret
        exact ⟨ret_bool hv.out.symm, HB.out⟩
      · have a2 : decide (tx < 1) = false := decide_eq_false ha2
        by_cases ha3 : 2147483647 < tx
        · have a3 : decide (2147483647 < tx) = true := decide_eq_true ha3
          have hv := Aside0.mk (show mrightB ge ph tg tx rt pg li n = false from decide_eq_false (by rintro ⟨k0, k⟩; have k1 := of_decide_eq_true k0; omega))
          clear ha0 ha1 ha2 ha3
          go_enter Try.func14, Try.ntmps14
          go_wp2
          go_ret
          exact ⟨ret_bool hv.out.symm, HB.out⟩
        · have a3 : decide (2147483647 < tx) = false := decide_eq_false ha3
          by_cases ha4 : pg < 3
          · have a4 : decide (pg < 3) = true := decide_eq_true ha4
            have hv := Aside0.mk (show mrightB ge ph tg tx rt pg li n = false from decide_eq_false (by rintro ⟨k0, k⟩; have k1 := of_decide_eq_true k0; omega))
            clear ha0 ha1 ha2 ha3 ha4
            go_enter Try.func14, Try.ntmps14
            go_wp2
            go_ret
            exact ⟨ret_bool hv.out.symm, HB.out⟩
          · have a4 : decide (pg < 3) = false := decide_eq_false ha4
            by_cases ha5 : 16384 < pg
            · have a5 : decide (16384 < pg) = true := decide_eq_true ha5
              have hv := Aside0.mk (show mrightB ge ph tg tx rt pg li n = false from decide_eq_false (by rintro ⟨k0, k⟩; have k1 := of_decide_eq_true k0; omega))
              clear ha0 ha1 ha2 ha3 ha4 ha5
              go_enter Try.func14, Try.ntmps14
              go_wp2
              go_ret
              exact ⟨ret_bool hv.out.symm, HB.out⟩
            · have a5 : decide (16384 < pg) = false := decide_eq_false ha5
              by_cases ha6 : rt < 2
              · have a6 : decide (rt < 2) = true := decide_eq_true ha6
                have hv := Aside0.mk (show mrightB ge ph tg tx rt pg li n = false from decide_eq_false (by rintro ⟨k0, k⟩; have k1 := of_decide_eq_true k0; omega))
                clear ha0 ha1 ha2 ha3 ha4 ha5 ha6
                go_enter Try.func14, Try.ntmps14
                go_wp2
                go_ret
                exact ⟨ret_bool hv.out.symm, HB.out⟩
              · have a6 : decide (rt < 2) = false := decide_eq_false ha6
                by_cases ha7 : pg ≤ rt
                · have a7 : decide (pg ≤ rt) = true := decide_eq_true ha7
                  have hv := Aside0.mk (show mrightB ge ph tg tx rt pg li n = false from decide_eq_false (by rintro ⟨k0, k⟩; have k1 := of_decide_eq_true k0; omega))
                  clear ha0 ha1 ha2 ha3 ha4 ha5 ha6 ha7
                  go_enter Try.func14, Try.ntmps14
                  go_wp2
                  go_ret
                  exact ⟨ret_bool hv.out.symm, HB.out⟩
                · have a7 : decide (pg ≤ rt) = false := decide_eq_false ha7
                  by_cases hl : li = 0
                  · have fl : (li != 0) = false := by simp [hl]
                    by_cases hp : ph = 0
                    · have fp := eq0 ph 0 hp
                      by_cases ht : tg = 0
                      · have ft := eq0 tg 0 ht
                        by_cases hc : n = 0
                        · have fc := eq0 (n : Int) 0 (by omega)
                          have hv := Aside0.mk (show mrightB ge ph tg tx rt pg li n = true from decide_eq_true (by refine ⟨decide_eq_true ?_, ?_⟩ <;> omega))
                          clear ha0 ha1 ha2 ha3 ha4 ha5 ha6 ha7 hl hp ht hc
                          go_enter Try.func14, Try.ntmps14
                          go_wp2
                          go_ret
                          exact ⟨ret_bool hv.out.symm, HB.out⟩
                        · have fc := ne0 (n : Int) 0 (by omega)
                          have hv := Aside0.mk (show mrightB ge ph tg tx rt pg li n = false from decide_eq_false (by rintro ⟨k0, k⟩; have k1 := of_decide_eq_true k0; omega))
                          clear ha0 ha1 ha2 ha3 ha4 ha5 ha6 ha7 hl hp ht hc
                          go_enter Try.func14, Try.ntmps14
                          go_wp2
                          go_ret
                          exact ⟨ret_bool hv.out.symm, HB.out⟩
                      · have ft := ne0 tg 0 ht
                        have hv := Aside0.mk (show mrightB ge ph tg tx rt pg li n = false from decide_eq_false (by rintro ⟨k0, k⟩; have k1 := of_decide_eq_true k0; omega))
                        clear ha0 ha1 ha2 ha3 ha4 ha5 ha6 ha7 hl hp ht
                        go_enter Try.func14, Try.ntmps14
                        go_wp2
                        go_ret
                        exact ⟨ret_bool hv.out.symm, HB.out⟩
                    · have fp := ne0 ph 0 hp
                      by_cases hq : ph = 1
                      · have fq := eq0 ph 1 hq
                        by_cases he0 : ge < tg
                        · have e0 : decide (ge < tg) = true := decide_eq_true he0
                          by_cases he1 : tg < 4
                          · have e1 : decide (tg < 4) = true := decide_eq_true he1
                            by_cases he2 : (n : Int) ≤ mkI tg
                            · have e2 : decide ((n : Int) ≤ mkI tg) = true := decide_eq_true he2
                              have hv := Aside0.mk (show mrightB ge ph tg tx rt pg li n = true from decide_eq_true (by refine ⟨decide_eq_true ?_, ?_⟩ <;> omega))
                              clear ha0 ha1 ha2 ha3 ha4 ha5 ha6 ha7 hl hp hq he0 he1 he2
                              go_enter Try.func14, Try.ntmps14
                              go_wp2_with fail
                              refine wp_region_ext (by kernel_rfl) (by kernel_rfl) ?_
                              have x0 := cell_ext z0
                              have x1 := cell_ext z1
                              have x2 := cell_ext z2
                              have x7 := cell_ext z7
                              repeat (go_big_quiet_step ((go_at_call 38; exact Calls.ext_same (rMaxKey_any tg _))))
                              refine wpQuiet_nil ?_
                              rintro w' ⟨kx, rfl⟩
                              have hBk := below_then HB.out (by simp) kx.bel
                              go_wp2
                              go_ret
                              exact ⟨ret_bool hv.out.symm, hBk⟩
                            · have e2 : decide ((n : Int) ≤ mkI tg) = false := decide_eq_false he2
                              have hv := Aside0.mk (show mrightB ge ph tg tx rt pg li n = false from decide_eq_false (by rintro ⟨k0, k⟩; have k1 := of_decide_eq_true k0; omega))
                              clear ha0 ha1 ha2 ha3 ha4 ha5 ha6 ha7 hl hp hq he0 he1 he2
                              go_enter Try.func14, Try.ntmps14
                              go_wp2_with fail
                              refine wp_region_ext (by kernel_rfl) (by kernel_rfl) ?_
                              have x0 := cell_ext z0
                              have x1 := cell_ext z1
                              have x2 := cell_ext z2
                              have x7 := cell_ext z7
                              repeat (go_big_quiet_step ((go_at_call 38; exact Calls.ext_same (rMaxKey_any tg _))))
                              refine wpQuiet_nil ?_
                              rintro w' ⟨kx, rfl⟩
                              have hBk := below_then HB.out (by simp) kx.bel
                              go_wp2
                              go_ret
                              exact ⟨ret_bool hv.out.symm, hBk⟩
                          · have e1 : decide (tg < 4) = false := decide_eq_false he1
                            have hv := Aside0.mk (show mrightB ge ph tg tx rt pg li n = false from decide_eq_false (by rintro ⟨k0, k⟩; have k1 := of_decide_eq_true k0; omega))
                            clear ha0 ha1 ha2 ha3 ha4 ha5 ha6 ha7 hl hp hq he0 he1
                            go_enter Try.func14, Try.ntmps14
                            go_wp2_with fail
                            refine wp_region_ext (by kernel_rfl) (by kernel_rfl) ?_
                            have x0 := cell_ext z0
                            have x1 := cell_ext z1
                            have x2 := cell_ext z2
                            have x7 := cell_ext z7
                            repeat (go_big_quiet_step ((go_at_call 38; exact Calls.ext_same (rMaxKey_any tg _))))
                            refine wpQuiet_nil ?_
                            rintro w' ⟨kx, rfl⟩
                            have hBk := below_then HB.out (by simp) kx.bel
                            go_wp2
                            go_ret
                            exact ⟨ret_bool hv.out.symm, hBk⟩
                        · have e0 : decide (ge < tg) = false := decide_eq_false he0
                          have hv := Aside0.mk (show mrightB ge ph tg tx rt pg li n = false from decide_eq_false (by rintro ⟨k0, k⟩; have k1 := of_decide_eq_true k0; omega))
                          clear ha0 ha1 ha2 ha3 ha4 ha5 ha6 ha7 hl hp hq he0
                          go_enter Try.func14, Try.ntmps14
                          go_wp2_with fail
                          refine wp_region_ext (by kernel_rfl) (by kernel_rfl) ?_
                          have x0 := cell_ext z0
                          have x1 := cell_ext z1
                          have x2 := cell_ext z2
                          have x7 := cell_ext z7
                          repeat (go_big_quiet_step ((go_at_call 38; exact Calls.ext_same (rMaxKey_any tg _))))
                          refine wpQuiet_nil ?_
                          rintro w' ⟨kx, rfl⟩
                          have hBk := below_then HB.out (by simp) kx.bel
                          go_wp2
                          go_ret
                          exact ⟨ret_bool hv.out.symm, hBk⟩
                      · have fq := ne0 ph 1 hq
                        have hv := Aside0.mk (show mrightB ge ph tg tx rt pg li n = false from decide_eq_false (by rintro ⟨k0, k⟩; have k1 := of_decide_eq_true k0; omega))
                        clear ha0 ha1 ha2 ha3 ha4 ha5 ha6 ha7 hl hp hq
                        go_enter Try.func14, Try.ntmps14
                        go_wp2_with fail
                        refine wp_region_ext (by kernel_rfl) (by kernel_rfl) ?_
                        have x0 := cell_ext z0
                        have x1 := cell_ext z1
                        have x2 := cell_ext z2
                        have x7 := cell_ext z7
                        repeat (go_big_quiet_step ((go_at_call 38; exact Calls.ext_same (rMaxKey_any tg _))))
                        refine wpQuiet_nil ?_
                        rintro w' ⟨kx, rfl⟩
                        have hBk := below_then HB.out (by simp) kx.bel
                        go_wp2
                        go_ret
                        exact ⟨ret_bool hv.out.symm, hBk⟩
                  · have fl : (li != 0) = true := by simp [hl]
                    by_cases hm : li < 2
                    · have fm : decide (li < 2) = true := decide_eq_true hm
                      have hv := Aside0.mk (show mrightB ge ph tg tx rt pg li n = false from decide_eq_false (by rintro ⟨k0, k⟩; have k1 := of_decide_eq_true k0; omega))
                      clear ha0 ha1 ha2 ha3 ha4 ha5 ha6 ha7 hl hm
                      go_enter Try.func14, Try.ntmps14
                      go_wp2
                      go_ret
                      exact ⟨ret_bool hv.out.symm, HB.out⟩
                    · have fm : decide (li < 2) = false := decide_eq_false hm
                      by_cases hn' : pg ≤ li
                      · have fn : decide (pg ≤ li) = true := decide_eq_true hn'
                        have hv := Aside0.mk (show mrightB ge ph tg tx rt pg li n = false from decide_eq_false (by rintro ⟨k0, k⟩; have k1 := of_decide_eq_true k0; omega))
                        clear ha0 ha1 ha2 ha3 ha4 ha5 ha6 ha7 hl hm hn'
                        go_enter Try.func14, Try.ntmps14
                        go_wp2
                        go_ret
                        exact ⟨ret_bool hv.out.symm, HB.out⟩
                      · have fn : decide (pg ≤ li) = false := decide_eq_false hn'
                        by_cases hp : ph = 0
                        · have fp := eq0 ph 0 hp
                          by_cases ht : tg = 0
                          · have ft := eq0 tg 0 ht
                            by_cases hc : n = 0
                            · have fc := eq0 (n : Int) 0 (by omega)
                              have hv := Aside0.mk (show mrightB ge ph tg tx rt pg li n = true from decide_eq_true (by refine ⟨decide_eq_true ?_, ?_⟩ <;> omega))
                              clear ha0 ha1 ha2 ha3 ha4 ha5 ha6 ha7 hl hm hn' hp ht hc
                              go_enter Try.func14, Try.ntmps14
                              go_wp2
                              go_ret
                              exact ⟨ret_bool hv.out.symm, HB.out⟩
                            · have fc := ne0 (n : Int) 0 (by omega)
                              have hv := Aside0.mk (show mrightB ge ph tg tx rt pg li n = false from decide_eq_false (by rintro ⟨k0, k⟩; have k1 := of_decide_eq_true k0; omega))
                              clear ha0 ha1 ha2 ha3 ha4 ha5 ha6 ha7 hl hm hn' hp ht hc
                              go_enter Try.func14, Try.ntmps14
                              go_wp2
                              go_ret
                              exact ⟨ret_bool hv.out.symm, HB.out⟩
                          · have ft := ne0 tg 0 ht
                            have hv := Aside0.mk (show mrightB ge ph tg tx rt pg li n = false from decide_eq_false (by rintro ⟨k0, k⟩; have k1 := of_decide_eq_true k0; omega))
                            clear ha0 ha1 ha2 ha3 ha4 ha5 ha6 ha7 hl hm hn' hp ht
                            go_enter Try.func14, Try.ntmps14
                            go_wp2
                            go_ret
                            exact ⟨ret_bool hv.out.symm, HB.out⟩
                        · have fp := ne0 ph 0 hp
                          by_cases hq : ph = 1
                          · have fq := eq0 ph 1 hq
                            by_cases he0 : ge < tg
                            · have e0 : decide (ge < tg) = true := decide_eq_true he0
                              by_cases he1 : tg < 4
                              · have e1 : decide (tg < 4) = true := decide_eq_true he1
                                by_cases he2 : (n : Int) ≤ mkI tg
                                · have e2 : decide ((n : Int) ≤ mkI tg) = true := decide_eq_true he2
                                  have hv := Aside0.mk (show mrightB ge ph tg tx rt pg li n = true from decide_eq_true (by refine ⟨decide_eq_true ?_, ?_⟩ <;> omega))
                                  clear ha0 ha1 ha2 ha3 ha4 ha5 ha6 ha7 hl hm hn' hp hq he0 he1 he2
                                  go_enter Try.func14, Try.ntmps14
                                  go_wp2_with fail
                                  refine wp_region_ext (by kernel_rfl) (by kernel_rfl) ?_
                                  have x0 := cell_ext z0
                                  have x1 := cell_ext z1
                                  have x2 := cell_ext z2
                                  have x7 := cell_ext z7
                                  repeat (go_big_quiet_step ((go_at_call 38; exact Calls.ext_same (rMaxKey_any tg _))))
                                  refine wpQuiet_nil ?_
                                  rintro w' ⟨kx, rfl⟩
                                  have hBk := below_then HB.out (by simp) kx.bel
                                  go_wp2
                                  go_ret
                                  exact ⟨ret_bool hv.out.symm, hBk⟩
                                · have e2 : decide ((n : Int) ≤ mkI tg) = false := decide_eq_false he2
                                  have hv := Aside0.mk (show mrightB ge ph tg tx rt pg li n = false from decide_eq_false (by rintro ⟨k0, k⟩; have k1 := of_decide_eq_true k0; omega))
                                  clear ha0 ha1 ha2 ha3 ha4 ha5 ha6 ha7 hl hm hn' hp hq he0 he1 he2
                                  go_enter Try.func14, Try.ntmps14
                                  go_wp2_with fail
                                  refine wp_region_ext (by kernel_rfl) (by kernel_rfl) ?_
                                  have x0 := cell_ext z0
                                  have x1 := cell_ext z1
                                  have x2 := cell_ext z2
                                  have x7 := cell_ext z7
                                  repeat (go_big_quiet_step ((go_at_call 38; exact Calls.ext_same (rMaxKey_any tg _))))
                                  refine wpQuiet_nil ?_
                                  rintro w' ⟨kx, rfl⟩
                                  have hBk := below_then HB.out (by simp) kx.bel
                                  go_wp2
                                  go_ret
                                  exact ⟨ret_bool hv.out.symm, hBk⟩
                              · have e1 : decide (tg < 4) = false := decide_eq_false he1
                                have hv := Aside0.mk (show mrightB ge ph tg tx rt pg li n = false from decide_eq_false (by rintro ⟨k0, k⟩; have k1 := of_decide_eq_true k0; omega))
                                clear ha0 ha1 ha2 ha3 ha4 ha5 ha6 ha7 hl hm hn' hp hq he0 he1
                                go_enter Try.func14, Try.ntmps14
                                go_wp2_with fail
                                refine wp_region_ext (by kernel_rfl) (by kernel_rfl) ?_
                                have x0 := cell_ext z0
                                have x1 := cell_ext z1
                                have x2 := cell_ext z2
                                have x7 := cell_ext z7
                                repeat (go_big_quiet_step ((go_at_call 38; exact Calls.ext_same (rMaxKey_any tg _))))
                                refine wpQuiet_nil ?_
                                rintro w' ⟨kx, rfl⟩
                                have hBk := below_then HB.out (by simp) kx.bel
                                go_wp2
                                go_ret
                                exact ⟨ret_bool hv.out.symm, hBk⟩
                            · have e0 : decide (ge < tg) = false := decide_eq_false he0
                              have hv := Aside0.mk (show mrightB ge ph tg tx rt pg li n = false from decide_eq_false (by rintro ⟨k0, k⟩; have k1 := of_decide_eq_true k0; omega))
                              clear ha0 ha1 ha2 ha3 ha4 ha5 ha6 ha7 hl hm hn' hp hq he0
                              go_enter Try.func14, Try.ntmps14
                              go_wp2_with fail
                              refine wp_region_ext (by kernel_rfl) (by kernel_rfl) ?_
                              have x0 := cell_ext z0
                              have x1 := cell_ext z1
                              have x2 := cell_ext z2
                              have x7 := cell_ext z7
                              repeat (go_big_quiet_step ((go_at_call 38; exact Calls.ext_same (rMaxKey_any tg _))))
                              refine wpQuiet_nil ?_
                              rintro w' ⟨kx, rfl⟩
                              have hBk := below_then HB.out (by simp) kx.bel
                              go_wp2
                              go_ret
                              exact ⟨ret_bool hv.out.symm, hBk⟩
                          · have fq := ne0 ph 1 hq
                            have hv := Aside0.mk (show mrightB ge ph tg tx rt pg li n = false from decide_eq_false (by rintro ⟨k0, k⟩; have k1 := of_decide_eq_true k0; omega))
                            clear ha0 ha1 ha2 ha3 ha4 ha5 ha6 ha7 hl hm hn' hp hq
                            go_enter Try.func14, Try.ntmps14
                            go_wp2_with fail
                            refine wp_region_ext (by kernel_rfl) (by kernel_rfl) ?_
                            have x0 := cell_ext z0
                            have x1 := cell_ext z1
                            have x2 := cell_ext z2
                            have x7 := cell_ext z7
                            repeat (go_big_quiet_step ((go_at_call 38; exact Calls.ext_same (rMaxKey_any tg _))))
                            refine wpQuiet_nil ?_
                            rintro w' ⟨kx, rfl⟩
                            have hBk := below_then HB.out (by simp) kx.bel
                            go_wp2
                            go_ret
                            exact ⟨ret_bool hv.out.symm, hBk⟩

theorem strEq (xs ys : List UInt8) : ((strB xs).toList == (strB ys).toList) = (xs == ys) := by rw [strB_list, strB_list]
set_option maxHeartbeats 4000000 in
set_option maxRecDepth 100000 in
theorem rmsame_any (ge ph tg tx rt pg li : Int) (A : Option Addr) (n c : Nat) (xs : List UInt8) (ge' ph' tg' tx' rt' pg' li' : Int) (A' : Option Addr) (n' c' : Nat) (ys : List UInt8) (w : World) (hx : Bs w A n c xs) (hy : Bs w A' n' c' ys) :
    Calls Try.prog 18 #[.agg #[.int .i64 ge, .int .i64 ph, .int .i64 tg, .int .i64 tx, .int .i64 rt, .int .i64 pg, .int .i64 li, .slice A n c], .agg #[.int .i64 ge', .int .i64 ph', .int .i64 tg', .int .i64 tx', .int .i64 rt', .int .i64 pg', .int .i64 li', .slice A' n' c']] w fun e w' => e = .returned (.bool (msameB ge ph tg tx rt pg li xs ge' ph' tg' tx' rt' pg' li' ys)) ∧ Below w.heap.size w w' := by
  have HB := Aside0.mk (((Below.refl w.heap.size w).alloc (Nat.le_refl _) (.cells #[.int .i64 ge, .int .i64 ph, .int .i64 tg, .int .i64 tx, .int .i64 rt, .int .i64 pg, .int .i64 li, .slice A n c] 24)).alloc (by simp) (.cells #[.int .i64 ge', .int .i64 ph', .int .i64 tg', .int .i64 tx', .int .i64 rt', .int .i64 pg', .int .i64 li', .slice A' n' c'] 24))
  have s1 := conv8 ((hx.alloc (.cells #[.int .i64 ge, .int .i64 ph, .int .i64 tg, .int .i64 tx, .int .i64 rt, .int .i64 pg, .int .i64 li, .slice A n c] 24)).alloc (.cells #[.int .i64 ge', .int .i64 ph', .int .i64 tg', .int .i64 tx', .int .i64 rt', .int .i64 pg', .int .i64 li', .slice A' n' c'] 24))
  have s2 := conv8 ((hy.alloc (.cells #[.int .i64 ge, .int .i64 ph, .int .i64 tg, .int .i64 tx, .int .i64 rt, .int .i64 pg, .int .i64 li, .slice A n c] 24)).alloc (.cells #[.int .i64 ge', .int .i64 ph', .int .i64 tg', .int .i64 tx', .int .i64 rt', .int .i64 pg', .int .i64 li', .slice A' n' c'] 24))
  clear hx hy
  by_cases q0 : ge = ge'
  · have f0 := eq0 ge ge' q0
    by_cases q1 : ph = ph'
    · have f1 := eq0 ph ph' q1
      by_cases q2 : tg = tg'
      · have f2 := eq0 tg tg' q2
        by_cases q3 : tx = tx'
        · have f3 := eq0 tx tx' q3
          by_cases q4 : rt = rt'
          · have f4 := eq0 rt rt' q4
            by_cases q5 : pg = pg'
            · have f5 := eq0 pg pg' q5
              by_cases q6 : li = li'
              · have f6 := eq0 li li' q6
                have hv := Aside0.mk (show msameB ge ph tg tx rt pg li xs ge' ph' tg' tx' rt' pg' li' ys = (xs == ys) from by
                  unfold msameB
                  rw [Bool.eq_iff_iff, decide_eq_true_iff, beq_iff_eq]
                  exact ⟨fun k => k.2.2.2.2.2.2.2, fun k => ⟨q3, q4, q5, q6, q0, q1, q2, k⟩⟩)
                clear q0 q1 q2 q3 q4 q5 q6
                go_enter Try.func18, Try.ntmps18
                go_wp2
                go_ret
                exact ⟨ret_bool (by rw [hv.out]; first | done | rfl | exact strEq xs ys), HB.out⟩
              · have f6 := ne0 li li' q6
                have hv := Aside0.mk (show msameB ge ph tg tx rt pg li xs ge' ph' tg' tx' rt' pg' li' ys = false from decide_eq_false (by rintro ⟨k3, k4, k5, k6, k0, k1, k2, k7⟩; first | exact q6 (by assumption)))
                clear q0 q1 q2 q3 q4 q5 q6
                go_enter Try.func18, Try.ntmps18
                go_wp2
                go_ret
                exact ⟨ret_bool (by rw [hv.out]; first | done | rfl), HB.out⟩
            · have f5 := ne0 pg pg' q5
              have hv := Aside0.mk (show msameB ge ph tg tx rt pg li xs ge' ph' tg' tx' rt' pg' li' ys = false from decide_eq_false (by rintro ⟨k3, k4, k5, k6, k0, k1, k2, k7⟩; first | exact q5 (by assumption)))
              clear q0 q1 q2 q3 q4 q5
              go_enter Try.func18, Try.ntmps18
              go_wp2
              go_ret
              exact ⟨ret_bool (by rw [hv.out]; first | done | rfl), HB.out⟩
          · have f4 := ne0 rt rt' q4
            have hv := Aside0.mk (show msameB ge ph tg tx rt pg li xs ge' ph' tg' tx' rt' pg' li' ys = false from decide_eq_false (by rintro ⟨k3, k4, k5, k6, k0, k1, k2, k7⟩; first | exact q4 (by assumption)))
            clear q0 q1 q2 q3 q4
            go_enter Try.func18, Try.ntmps18
            go_wp2
            go_ret
            exact ⟨ret_bool (by rw [hv.out]; first | done | rfl), HB.out⟩
        · have f3 := ne0 tx tx' q3
          have hv := Aside0.mk (show msameB ge ph tg tx rt pg li xs ge' ph' tg' tx' rt' pg' li' ys = false from decide_eq_false (by rintro ⟨k3, k4, k5, k6, k0, k1, k2, k7⟩; first | exact q3 (by assumption)))
          clear q0 q1 q2 q3
          go_enter Try.func18, Try.ntmps18
          go_wp2
          go_ret
          exact ⟨ret_bool (by rw [hv.out]; first | done | rfl), HB.out⟩
      · have f2 := ne0 tg tg' q2
        have hv := Aside0.mk (show msameB ge ph tg tx rt pg li xs ge' ph' tg' tx' rt' pg' li' ys = false from decide_eq_false (by rintro ⟨k3, k4, k5, k6, k0, k1, k2, k7⟩; first | exact q2 (by assumption)))
        clear q0 q1 q2
        go_enter Try.func18, Try.ntmps18
        go_wp2
        go_ret
        exact ⟨ret_bool (by rw [hv.out]; first | done | rfl), HB.out⟩
    · have f1 := ne0 ph ph' q1
      have hv := Aside0.mk (show msameB ge ph tg tx rt pg li xs ge' ph' tg' tx' rt' pg' li' ys = false from decide_eq_false (by rintro ⟨k3, k4, k5, k6, k0, k1, k2, k7⟩; first | exact q1 (by assumption)))
      clear q0 q1
      go_enter Try.func18, Try.ntmps18
      go_wp2
      go_ret
      exact ⟨ret_bool (by rw [hv.out]; first | done | rfl), HB.out⟩
  · have f0 := ne0 ge ge' q0
    have hv := Aside0.mk (show msameB ge ph tg tx rt pg li xs ge' ph' tg' tx' rt' pg' li' ys = false from decide_eq_false (by rintro ⟨k3, k4, k5, k6, k0, k1, k2, k7⟩; first | exact q0 (by assumption)))
    clear q0
    go_enter Try.func18, Try.ntmps18
    go_wp2
    go_ret
    exact ⟨ret_bool (by rw [hv.out]; first | done | rfl), HB.out⟩

end Go.Proofs.Ytenibcbodjkglaa
