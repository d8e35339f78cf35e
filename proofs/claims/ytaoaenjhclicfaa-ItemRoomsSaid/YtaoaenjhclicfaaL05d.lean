/- The walk of the law ItemRooms. -/
import Derived.Test.YtaoaenjhclicfaaL05a
import Derived.RegionTactic
import Derived.BigRegion
set_option linter.unusedVariables false
set_option linter.unusedSimpArgs false
namespace Go.Proofs.Ytaoaenjhclicfaa
open Go.RowKit

/-- An item boxed twice, as the reference's and as item's. -/
structure RX (w : World) (a b c d : Value) (g : Nat) (W : World) : Prop where
  row1 : W.heap[w.heap.size]? = some (.cells #[a, b, c, d] 38)
  row2 : W.heap[g]? = some (.cells #[a, b, c, d] 40)
  bel : Below w.heap.size w W
theorem RX.mk0 {w w1 : World} {a b c d : Value} (h : IRow w a b c d 38 w1) : RX w a b c d w1.heap.size (w1.alloc (.cells #[a, b, c, d] 40)) :=
  ⟨row_below h.row (bel1 _ _), heap_alloc_new _ _, below_then h.bel h.bel.size (bel1 _ _)⟩
theorem RX.step {w W W1 : World} {a b c d : Value} {g : Nat} (h : RX w a b c d g W) (hB : Below W.heap.size W W1) : RX w a b c d g W1 :=
  ⟨row_below h.row1 hB, row_below h.row2 hB, below_then h.bel h.bel.size hB⟩

set_option maxHeartbeats 8000000 in
set_option maxRecDepth 100000 in
theorem itemRooms_walk (g : Int) (Ak : Option Addr) (nk ck : Nat) (xs : List UInt8) (Av : Option Addr) (nv cv : Nat) (ys : List UInt8) (s r : Int) (w : World) (hg0 : -9223372036854775808 ≤ g ∧ g ≤ 9223372036854775807) (hb : Bs w Ak nk ck xs) (hb' : Bs w Av nv cv ys) :
    Calls Try.prog 10 #[.int .i64 g, .agg #[.slice Ak nk ck, .slice Av nv cv, .int .i64 s, .int .i64 r]] w fun e w' => e = .returned (.bool true) ∧ Below w.heap.size w w' := by
  have hk := hb.lim
  have hv := hb'.lim
  obtain ⟨r0, r1⟩ := iw_range g
  clear hb hb' hg0
  cases hf : fewB nk nv with
  | false =>
    go_enter Try.func10, Try.ntmps10
    go_wp2_with (first | (go_at_call 38; refine (few_any Ak nk ck Av nv cv s r _).mono ?_; rintro e w1 ⟨rfl, hB1⟩; rw [hf]; (have HI := Aside0.mk (IRow.mk0 hB1)); obtain ⟨c0, c1, c2, c3⟩ := HI.out.cells; clear hB1) | (go_at_call 26; refine (alive05_any _).mono ?_; rintro e w2 ⟨rfl, hB2⟩; (have HB2 := Aside0.mk (below_then HI.out.bel HI.out.bel.size hB2)); clear hB2))
    go_ret
    exact ⟨rfl, HB2.out⟩
  | true =>
  by_cases h1 : g < 1
  · have f1 : decide (1 ≤ g) = false := dI_f (by omega)
    have hki : kidI g nk = 0 := by unfold kidI; rw [if_neg (by simp [gen_lo h1])]
    clear h1
    go_enter Try.func10, Try.ntmps10
    go_wp2_with (go_at_call 38; refine (few_any Ak nk ck Av nv cv s r _).mono ?_; rintro e w1 ⟨rfl, hB1⟩; rw [hf]; (have HI := Aside0.mk (IRow.mk0 hB1)); obtain ⟨c0, c1, c2, c3⟩ := HI.out.cells; clear hB1)
    have HX := Aside0.mk (RX.mk0 HI.out)
    generalize w1.heap.size = g2 at HX ⊢
    generalize w1.alloc (.cells #[.slice Ak nk ck, .slice Av nv cv, .int .i64 s, .int .i64 r] 40) = w2 at HX ⊢
    obtain ⟨k0, k1, k2, k3⟩ := item_cells2 HX.out.row1
    obtain ⟨m0, m1, m2, m3⟩ := item_cells2 HX.out.row2
    have d0 := cell_ext k0
    have d1 := cell_ext k1
    have d2 := cell_ext k2
    have d3 := cell_ext k3
    have e0 := cell_ext m0
    have e1 := cell_ext m1
    have e2 := cell_ext m2
    have e3 := cell_ext m3
    refine wp_region_ext (by kernel_rfl) (by kernel_rfl) ?_
    repeat (go_big_quiet_step ((first | (go_at_call 26; exact Calls.ext_of (alive05_any _)) | (go_at_call 39; exact Calls.ext_of (right_any _ _ _ _ _ _ _ _ _ _ hk hv)) | (go_at_call 41; exact Calls.ext_of (far_any _ _ _ _ _ _ _ _ _)) | (go_at_call 43; exact Calls.ext_of (long_any _ _ _ _ _ _ _ _ _)) | (go_at_call 45; exact Calls.ext_of (room_any _ _ _ _ _ _ _ _ _ _ hk hv)) | (go_at_call 47; exact Calls.ext_of (kid_any _ _ _ _ _ hk)) | (go_at_call 48; exact Calls.ext_of (why_any _ _ _ _ _ _ _ _ hk hv)) | (go_at_call 40; exact Calls.ext_of (rright_any _ _ _ _ _ _ _ _ _ _ hk hv)) | (go_at_call 42; exact Calls.ext_of (rfar_any _ _ _ _ _ _ _ _ _)) | (go_at_call 44; exact Calls.ext_of (rlong_any _ _ _ _ _ _ _ _ _)) | (go_at_call 46; exact Calls.ext_of (rroom_any _ _ _ _ _ _ _ _ _ _ hk hv)) | (go_at_call 49; exact Calls.ext_same (rwhy_any _ _ _ _ _ _ _ _ hk hv)))))
    refine wpQuiet_nil ?_
    rintro w' ⟨ky, rfl⟩
    have hBk := below_then HX.out.bel HX.out.bel.size ky.bel
    go_wp2
    go_ret
    exact ⟨ret_bool (by first | rfl | simp), hBk⟩
  have f1 : decide (1 ≤ g) = true := dI_t (by omega)
  by_cases h2 : 3 < g
  · have f2 : decide (g ≤ 3) = false := dI_f (by omega)
    have hki : kidI g nk = 0 := by unfold kidI; rw [if_neg (by simp [gen_hi h2])]
    clear h1 h2
    go_enter Try.func10, Try.ntmps10
    go_wp2_with (go_at_call 38; refine (few_any Ak nk ck Av nv cv s r _).mono ?_; rintro e w1 ⟨rfl, hB1⟩; rw [hf]; (have HI := Aside0.mk (IRow.mk0 hB1)); obtain ⟨c0, c1, c2, c3⟩ := HI.out.cells; clear hB1)
    have HX := Aside0.mk (RX.mk0 HI.out)
    generalize w1.heap.size = g2 at HX ⊢
    generalize w1.alloc (.cells #[.slice Ak nk ck, .slice Av nv cv, .int .i64 s, .int .i64 r] 40) = w2 at HX ⊢
    obtain ⟨k0, k1, k2, k3⟩ := item_cells2 HX.out.row1
    obtain ⟨m0, m1, m2, m3⟩ := item_cells2 HX.out.row2
    have d0 := cell_ext k0
    have d1 := cell_ext k1
    have d2 := cell_ext k2
    have d3 := cell_ext k3
    have e0 := cell_ext m0
    have e1 := cell_ext m1
    have e2 := cell_ext m2
    have e3 := cell_ext m3
    refine wp_region_ext (by kernel_rfl) (by kernel_rfl) ?_
    repeat (go_big_quiet_step ((first | (go_at_call 26; exact Calls.ext_of (alive05_any _)) | (go_at_call 39; exact Calls.ext_of (right_any _ _ _ _ _ _ _ _ _ _ hk hv)) | (go_at_call 41; exact Calls.ext_of (far_any _ _ _ _ _ _ _ _ _)) | (go_at_call 43; exact Calls.ext_of (long_any _ _ _ _ _ _ _ _ _)) | (go_at_call 45; exact Calls.ext_of (room_any _ _ _ _ _ _ _ _ _ _ hk hv)) | (go_at_call 47; exact Calls.ext_of (kid_any _ _ _ _ _ hk)) | (go_at_call 48; exact Calls.ext_of (why_any _ _ _ _ _ _ _ _ hk hv)) | (go_at_call 40; exact Calls.ext_of (rright_any _ _ _ _ _ _ _ _ _ _ hk hv)) | (go_at_call 42; exact Calls.ext_of (rfar_any _ _ _ _ _ _ _ _ _)) | (go_at_call 44; exact Calls.ext_of (rlong_any _ _ _ _ _ _ _ _ _)) | (go_at_call 46; exact Calls.ext_of (rroom_any _ _ _ _ _ _ _ _ _ _ hk hv)) | (go_at_call 49; exact Calls.ext_same (rwhy_any _ _ _ _ _ _ _ _ hk hv)))))
    refine wpQuiet_nil ?_
    rintro w' ⟨ky, rfl⟩
    have hBk := below_then HX.out.bel HX.out.bel.size ky.bel
    go_wp2
    go_ret
    exact ⟨ret_bool (by first | rfl | simp), hBk⟩
  have f2 : decide (g ≤ 3) = true := dI_t (by omega)
  have hki : kidI g nk = 1 + (nk : Int) + iwI g := by unfold kidI; rw [if_pos (gen_in h1 h2)]
  clear h1 h2
  go_enter Try.func10, Try.ntmps10
  go_wp2_with (go_at_call 38; refine (few_any Ak nk ck Av nv cv s r _).mono ?_; rintro e w1 ⟨rfl, hB1⟩; rw [hf]; (have HI := Aside0.mk (IRow.mk0 hB1)); obtain ⟨c0, c1, c2, c3⟩ := HI.out.cells; clear hB1)
  have HX := Aside0.mk (RX.mk0 HI.out)
  generalize w1.heap.size = g2 at HX ⊢
  generalize w1.alloc (.cells #[.slice Ak nk ck, .slice Av nv cv, .int .i64 s, .int .i64 r] 40) = w2 at HX ⊢
  obtain ⟨k0, k1, k2, k3⟩ := item_cells2 HX.out.row1
  have d0 := cell_ext k0
  refine wp_region_ext (by kernel_rfl) (by kernel_rfl) ?_
  repeat (go_big_quiet_step ((go_at_call 33; exact Calls.ext_same (rIdWidth_any _ _))))
  refine wpQuiet_nil ?_
  rintro w3 ⟨kx, rfl⟩
  have HY := Aside0.mk (HX.out.step kx.bel)
  clear d0 k0 k1 k2 k3
  generalize kx.w = w4 at HY ⊢
  go_wp2
  obtain ⟨k0, k1, k2, k3⟩ := item_cells2 HY.out.row1
  obtain ⟨m0, m1, m2, m3⟩ := item_cells2 HY.out.row2
  have d0 := cell_ext k0
  have d1 := cell_ext k1
  have d2 := cell_ext k2
  have d3 := cell_ext k3
  have e0 := cell_ext m0
  have e1 := cell_ext m1
  have e2 := cell_ext m2
  have e3 := cell_ext m3
  refine wp_region_ext (by kernel_rfl) (by kernel_rfl) ?_
  repeat (go_big_quiet_step ((first | (go_at_call 26; exact Calls.ext_of (alive05_any _)) | (go_at_call 39; exact Calls.ext_of (right_any _ _ _ _ _ _ _ _ _ _ hk hv)) | (go_at_call 41; exact Calls.ext_of (far_any _ _ _ _ _ _ _ _ _)) | (go_at_call 43; exact Calls.ext_of (long_any _ _ _ _ _ _ _ _ _)) | (go_at_call 45; exact Calls.ext_of (room_any _ _ _ _ _ _ _ _ _ _ hk hv)) | (go_at_call 47; exact Calls.ext_of (kid_any _ _ _ _ _ hk)) | (go_at_call 48; exact Calls.ext_of (why_any _ _ _ _ _ _ _ _ hk hv)) | (go_at_call 40; exact Calls.ext_of (rright_any _ _ _ _ _ _ _ _ _ _ hk hv)) | (go_at_call 42; exact Calls.ext_of (rfar_any _ _ _ _ _ _ _ _ _)) | (go_at_call 44; exact Calls.ext_of (rlong_any _ _ _ _ _ _ _ _ _)) | (go_at_call 46; exact Calls.ext_of (rroom_any _ _ _ _ _ _ _ _ _ _ hk hv)) | (go_at_call 49; exact Calls.ext_same (rwhy_any _ _ _ _ _ _ _ _ hk hv)))))
  refine wpQuiet_nil ?_
  rintro w' ⟨ky, rfl⟩
  have hBk := below_then HY.out.bel HY.out.bel.size ky.bel
  go_wp2
  go_ret
  exact ⟨ret_bool (by first | rfl | simp), hBk⟩
end Go.Proofs.Ytaoaenjhclicfaa
