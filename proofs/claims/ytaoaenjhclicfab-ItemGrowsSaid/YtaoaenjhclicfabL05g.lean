/- The walk of the law ItemGrows. -/
import Derived.Test.YtaoaenjhclicfabL05a
import Derived.RegionTactic
import Derived.BigRegion
set_option linter.unusedVariables false
set_option linter.unusedSimpArgs false
namespace Go.Proofs.Ytaoaenjhclicfab
open Go.RowKit

/-- An item boxed twice, as the reference's and as item's. -/
structure RX (w : World) (a b c d : Value) (g : Nat) (W : World) : Prop where
  row1 : W.heap[w.heap.size]? = some (.cells #[a, b, c, d] 24)
  row2 : W.heap[g]? = some (.cells #[a, b, c, d] 27)
  bel : Below w.heap.size w W
theorem RX.mk0 {w w1 : World} {a b c d : Value} (h : IRow w a b c d 24 w1) : RX w a b c d w1.heap.size (w1.alloc (.cells #[a, b, c, d] 27)) :=
  ⟨row_below h.row (bel1 _ _), heap_alloc_new _ _, below_then h.bel h.bel.size (bel1 _ _)⟩

theorem gen3_grows (g h a b c : Int) (h1 : 1 ≤ g) (h2 : g ≤ h) (h3 : h ≤ 3) (ab : a ≤ b) (bc : b ≤ c) : gen3 g a b c ≤ gen3 h a b c := by
  have hg : g = 1 ∨ g = 2 ∨ g = 3 := by omega
  have hh : h = 1 ∨ h = 2 ∨ h = 3 := by omega
  rcases hg with rfl | rfl | rfl <;> rcases hh with rfl | rfl | rfl <;> simp [gen3] <;> omega
theorem why_grows (g h : Int) (nk nv : Nat) (h1 : 1 ≤ g) (h2 : g ≤ h) (h3 : h ≤ 3) (hw : whyI g nk nv = 0) : whyI h nk nv = 0 := by
  have m1 : mkI g ≤ mkI h := gen3_grows g h _ _ _ h1 h2 h3 (by decide) (by decide)
  have m2 : mvI g ≤ mvI h := gen3_grows g h _ _ _ h1 h2 h3 (by decide) (by decide)
  unfold whyI at hw ⊢
  rw [if_pos (show genB _ = true from decide_eq_true (by omega))] at hw
  rw [if_pos (show genB _ = true from decide_eq_true (by omega))]
  by_cases c1 : nk = 0 ∨ mkI g < (nk : Int)
  · rw [if_pos c1] at hw; omega
  rw [if_neg c1] at hw
  by_cases c2 : mvI g < (nv : Int)
  · rw [if_pos c2] at hw; omega
  rw [if_neg (by omega), if_neg (by omega)]
theorem right_grows (g h : Int) (nk nv : Nat) (s r : Int) (h1 : 1 ≤ g) (h2 : g ≤ h) (h3 : h ≤ 3) (hr : rightB g nk nv s r = true) : rightB h nk nv s r = true := by
  have m2 : mvI g ≤ mvI h := gen3_grows g h _ _ _ h1 h2 h3 (by decide) (by decide)
  unfold rightB at hr ⊢
  rw [Bool.and_eq_true] at hr ⊢
  obtain ⟨a, b⟩ := hr
  obtain ⟨a1, a2⟩ := of_decide_eq_true a
  exact ⟨decide_eq_true ⟨why_grows g h nk nv h1 h2 h3 a1, by omega⟩, b⟩
theorem room_grows (g h : Int) (nk nv : Nat) (r : Int) (h1 : 1 ≤ g) (h2 : g ≤ h) (h3 : h ≤ 3) : roomI g nk nv r ≤ roomI h nk nv r := by
  have m2 : iwI g ≤ iwI h := gen3_grows g h _ _ _ h1 h2 h3 (by decide) (by decide)
  unfold roomI
  rw [if_pos (show genB _ = true from decide_eq_true (by omega)), if_pos (show genB _ = true from decide_eq_true (by omega))]
  split <;> omega
theorem kid_grows (g h : Int) (nk : Nat) (h1 : 1 ≤ g) (h2 : g ≤ h) (h3 : h ≤ 3) : kidI g nk ≤ kidI h nk := by
  have m2 : iwI g ≤ iwI h := gen3_grows g h _ _ _ h1 h2 h3 (by decide) (by decide)
  unfold kidI
  rw [if_pos (show genB _ = true from decide_eq_true (by omega)), if_pos (show genB _ = true from decide_eq_true (by omega))]
  omega

set_option maxHeartbeats 8000000 in
set_option maxRecDepth 100000 in
theorem itemGrows_walk (g h : Int) (Ak : Option Addr) (nk ck : Nat) (xs : List UInt8) (Av : Option Addr) (nv cv : Nat) (ys : List UInt8) (s r : Int) (w : World) (hg0 : -9223372036854775808 ≤ g ∧ g ≤ 9223372036854775807) (hh0 : -9223372036854775808 ≤ h ∧ h ≤ 9223372036854775807) (hb : Bs w Ak nk ck xs) (hb' : Bs w Av nv cv ys) :
    Calls Try.prog 3 #[.int .i64 g, .int .i64 h, .agg #[.slice Ak nk ck, .slice Av nv cv, .int .i64 s, .int .i64 r]] w fun e w' => e = .returned (.bool true) ∧ Below w.heap.size w w' := by
  have hk := hb.lim
  have hv := hb'.lim
  clear hb hb' hg0 hh0
  cases hf : fewB nk nv with
  | false =>
    go_enter Try.func3, Try.ntmps3
    go_wp2_with (first | (go_at_call 15; refine (few_any Ak nk ck Av nv cv s r _).mono ?_; rintro e w1 ⟨rfl, hB1⟩; rw [hf]; (have HI := Aside0.mk (IRow.mk0 hB1)); obtain ⟨c0, c1, c2, c3⟩ := HI.out.cells; clear hB1) | (go_at_call 16; refine (alive05_any _).mono ?_; rintro e w2 ⟨rfl, hB2⟩; (have HB2 := Aside0.mk (below_then HI.out.bel HI.out.bel.size hB2)); clear hB2))
    go_ret
    exact ⟨rfl, HB2.out⟩
  | true =>
  by_cases h1 : g < 1
  · have f1 := dI_t h1
    clear h1
    go_enter Try.func3, Try.ntmps3
    go_wp2_with (first | (go_at_call 15; refine (few_any Ak nk ck Av nv cv s r _).mono ?_; rintro e w1 ⟨rfl, hB1⟩; rw [hf]; (have HI := Aside0.mk (IRow.mk0 hB1)); obtain ⟨c0, c1, c2, c3⟩ := HI.out.cells; clear hB1) | (go_at_call 16; refine (alive05_any _).mono ?_; rintro e w2 ⟨rfl, hB2⟩; (have HB2 := Aside0.mk (below_then HI.out.bel HI.out.bel.size hB2)); clear hB2))
    go_ret
    exact ⟨rfl, HB2.out⟩
  have f1 := dI_f h1
  by_cases h2 : h < g
  · have f2 := dI_t h2
    clear h1 h2
    go_enter Try.func3, Try.ntmps3
    go_wp2_with (first | (go_at_call 15; refine (few_any Ak nk ck Av nv cv s r _).mono ?_; rintro e w1 ⟨rfl, hB1⟩; rw [hf]; (have HI := Aside0.mk (IRow.mk0 hB1)); obtain ⟨c0, c1, c2, c3⟩ := HI.out.cells; clear hB1) | (go_at_call 16; refine (alive05_any _).mono ?_; rintro e w2 ⟨rfl, hB2⟩; (have HB2 := Aside0.mk (below_then HI.out.bel HI.out.bel.size hB2)); clear hB2))
    go_ret
    exact ⟨rfl, HB2.out⟩
  have f2 := dI_f h2
  by_cases h3 : 3 < h
  · have f3 := dI_t h3
    clear h1 h2 h3
    go_enter Try.func3, Try.ntmps3
    go_wp2_with (first | (go_at_call 15; refine (few_any Ak nk ck Av nv cv s r _).mono ?_; rintro e w1 ⟨rfl, hB1⟩; rw [hf]; (have HI := Aside0.mk (IRow.mk0 hB1)); obtain ⟨c0, c1, c2, c3⟩ := HI.out.cells; clear hB1) | (go_at_call 16; refine (alive05_any _).mono ?_; rintro e w2 ⟨rfl, hB2⟩; (have HB2 := Aside0.mk (below_then HI.out.bel HI.out.bel.size hB2)); clear hB2))
    go_ret
    exact ⟨rfl, HB2.out⟩
  have f3 := dI_f h3
  have hrm := dI_t (room_grows g h nk nv r (by omega) (by omega) (by omega))
  have hkd := dI_t (kid_grows g h nk (by omega) (by omega) (by omega))
  have hrg := Aside0.mk (fun k => right_grows g h nk nv s r (by omega) (by omega) (by omega) k)
  have hwg := Aside0.mk (fun k => why_grows g h nk nv (by omega) (by omega) (by omega) k)
  clear h1 h2 h3
  cases hr : rightB g nk nv s r with
  | true =>
    have hr2 := hrg.out hr
    by_cases hw : whyI g nk nv = 0
    · have w1 : (whyI g nk nv != 0) = false := bne_f hw
      have w2 : (whyI h nk nv == 0) = true := beq_t (hwg.out hw)
      clear hw
      go_enter Try.func3, Try.ntmps3
      go_wp2_with (go_at_call 15; refine (few_any Ak nk ck Av nv cv s r _).mono ?_; rintro e w1 ⟨rfl, hB1⟩; rw [hf]; (have HI := Aside0.mk (IRow.mk0 hB1)); obtain ⟨c0, c1, c2, c3⟩ := HI.out.cells; clear hB1)
      have HX := Aside0.mk (RX.mk0 HI.out)
      generalize w1.heap.size = g2 at HX ⊢
      generalize w1.alloc (.cells #[.slice Ak nk ck, .slice Av nv cv, .int .i64 s, .int .i64 r] 27) = w2 at HX ⊢
      obtain ⟨k0, k1, k2, k3⟩ := item_cells2 HX.out.row1
      obtain ⟨m0, m1, m2, m3⟩ := item_cells2 HX.out.row2
      have d0 := cell_ext k0
      have d1 := cell_ext k1
      have d2 := cell_ext k2
      have d3 := cell_ext k3
      have e0 := cell_ext m0
      have e1 := cell_ext m1
      have e2 := cell_ext m2
      have e3 := cell_ext m3
      refine wp_region_ext (by kernel_rfl) (by kernel_rfl) ?_
      repeat (go_big_quiet_step ((first | (go_at_call 16; exact Calls.ext_of (alive05_any _)) | (go_at_call 17; exact Calls.ext_of (right_any _ _ _ _ _ _ _ _ _ _ hk hv)) | (go_at_call 19; exact Calls.ext_of (room_any _ _ _ _ _ _ _ _ _ _ hk hv)) | (go_at_call 20; exact Calls.ext_of (kid_any _ _ _ _ _ hk)) | (go_at_call 18; exact Calls.ext_of (why_any _ _ _ _ _ _ _ _ hk hv)))))
      refine wpQuiet_nil ?_
      rintro w' ⟨ky, rfl⟩
      have hBk := below_then HX.out.bel HX.out.bel.size ky.bel
      go_wp2
      go_ret
      exact ⟨ret_bool (by first | rfl | simp), hBk⟩
    · have w1 : (whyI g nk nv != 0) = true := bne_t hw
      clear hw
      go_enter Try.func3, Try.ntmps3
      go_wp2_with (go_at_call 15; refine (few_any Ak nk ck Av nv cv s r _).mono ?_; rintro e w1 ⟨rfl, hB1⟩; rw [hf]; (have HI := Aside0.mk (IRow.mk0 hB1)); obtain ⟨c0, c1, c2, c3⟩ := HI.out.cells; clear hB1)
      have HX := Aside0.mk (RX.mk0 HI.out)
      generalize w1.heap.size = g2 at HX ⊢
      generalize w1.alloc (.cells #[.slice Ak nk ck, .slice Av nv cv, .int .i64 s, .int .i64 r] 27) = w2 at HX ⊢
      obtain ⟨k0, k1, k2, k3⟩ := item_cells2 HX.out.row1
      obtain ⟨m0, m1, m2, m3⟩ := item_cells2 HX.out.row2
      have d0 := cell_ext k0
      have d1 := cell_ext k1
      have d2 := cell_ext k2
      have d3 := cell_ext k3
      have e0 := cell_ext m0
      have e1 := cell_ext m1
      have e2 := cell_ext m2
      have e3 := cell_ext m3
      refine wp_region_ext (by kernel_rfl) (by kernel_rfl) ?_
      repeat (go_big_quiet_step ((first | (go_at_call 16; exact Calls.ext_of (alive05_any _)) | (go_at_call 17; exact Calls.ext_of (right_any _ _ _ _ _ _ _ _ _ _ hk hv)) | (go_at_call 19; exact Calls.ext_of (room_any _ _ _ _ _ _ _ _ _ _ hk hv)) | (go_at_call 20; exact Calls.ext_of (kid_any _ _ _ _ _ hk)) | (go_at_call 18; exact Calls.ext_of (why_any _ _ _ _ _ _ _ _ hk hv)))))
      refine wpQuiet_nil ?_
      rintro w' ⟨ky, rfl⟩
      have hBk := below_then HX.out.bel HX.out.bel.size ky.bel
      go_wp2
      go_ret
      exact ⟨ret_bool (by first | rfl | simp), hBk⟩
  | false =>
    by_cases hw : whyI g nk nv = 0
    · have w1 : (whyI g nk nv != 0) = false := bne_f hw
      have w2 : (whyI h nk nv == 0) = true := beq_t (hwg.out hw)
      clear hw
      go_enter Try.func3, Try.ntmps3
      go_wp2_with (go_at_call 15; refine (few_any Ak nk ck Av nv cv s r _).mono ?_; rintro e w1 ⟨rfl, hB1⟩; rw [hf]; (have HI := Aside0.mk (IRow.mk0 hB1)); obtain ⟨c0, c1, c2, c3⟩ := HI.out.cells; clear hB1)
      have HX := Aside0.mk (RX.mk0 HI.out)
      generalize w1.heap.size = g2 at HX ⊢
      generalize w1.alloc (.cells #[.slice Ak nk ck, .slice Av nv cv, .int .i64 s, .int .i64 r] 27) = w2 at HX ⊢
      obtain ⟨k0, k1, k2, k3⟩ := item_cells2 HX.out.row1
      obtain ⟨m0, m1, m2, m3⟩ := item_cells2 HX.out.row2
      have d0 := cell_ext k0
      have d1 := cell_ext k1
      have d2 := cell_ext k2
      have d3 := cell_ext k3
      have e0 := cell_ext m0
      have e1 := cell_ext m1
      have e2 := cell_ext m2
      have e3 := cell_ext m3
      refine wp_region_ext (by kernel_rfl) (by kernel_rfl) ?_
      repeat (go_big_quiet_step ((first | (go_at_call 16; exact Calls.ext_of (alive05_any _)) | (go_at_call 17; exact Calls.ext_of (right_any _ _ _ _ _ _ _ _ _ _ hk hv)) | (go_at_call 19; exact Calls.ext_of (room_any _ _ _ _ _ _ _ _ _ _ hk hv)) | (go_at_call 20; exact Calls.ext_of (kid_any _ _ _ _ _ hk)) | (go_at_call 18; exact Calls.ext_of (why_any _ _ _ _ _ _ _ _ hk hv)))))
      refine wpQuiet_nil ?_
      rintro w' ⟨ky, rfl⟩
      have hBk := below_then HX.out.bel HX.out.bel.size ky.bel
      go_wp2
      go_ret
      exact ⟨ret_bool (by first | rfl | simp), hBk⟩
    · have w1 : (whyI g nk nv != 0) = true := bne_t hw
      clear hw
      go_enter Try.func3, Try.ntmps3
      go_wp2_with (go_at_call 15; refine (few_any Ak nk ck Av nv cv s r _).mono ?_; rintro e w1 ⟨rfl, hB1⟩; rw [hf]; (have HI := Aside0.mk (IRow.mk0 hB1)); obtain ⟨c0, c1, c2, c3⟩ := HI.out.cells; clear hB1)
      have HX := Aside0.mk (RX.mk0 HI.out)
      generalize w1.heap.size = g2 at HX ⊢
      generalize w1.alloc (.cells #[.slice Ak nk ck, .slice Av nv cv, .int .i64 s, .int .i64 r] 27) = w2 at HX ⊢
      obtain ⟨k0, k1, k2, k3⟩ := item_cells2 HX.out.row1
      obtain ⟨m0, m1, m2, m3⟩ := item_cells2 HX.out.row2
      have d0 := cell_ext k0
      have d1 := cell_ext k1
      have d2 := cell_ext k2
      have d3 := cell_ext k3
      have e0 := cell_ext m0
      have e1 := cell_ext m1
      have e2 := cell_ext m2
      have e3 := cell_ext m3
      refine wp_region_ext (by kernel_rfl) (by kernel_rfl) ?_
      repeat (go_big_quiet_step ((first | (go_at_call 16; exact Calls.ext_of (alive05_any _)) | (go_at_call 17; exact Calls.ext_of (right_any _ _ _ _ _ _ _ _ _ _ hk hv)) | (go_at_call 19; exact Calls.ext_of (room_any _ _ _ _ _ _ _ _ _ _ hk hv)) | (go_at_call 20; exact Calls.ext_of (kid_any _ _ _ _ _ hk)) | (go_at_call 18; exact Calls.ext_of (why_any _ _ _ _ _ _ _ _ hk hv)))))
      refine wpQuiet_nil ?_
      rintro w' ⟨ky, rfl⟩
      have hBk := below_then HX.out.bel HX.out.bel.size ky.bel
      go_wp2
      go_ret
      exact ⟨ret_bool (by first | rfl | simp), hBk⟩
end Go.Proofs.Ytaoaenjhclicfab
