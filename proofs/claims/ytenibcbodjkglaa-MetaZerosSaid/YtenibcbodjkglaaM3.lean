/- The walks of meta's numbers, heads, Same. -/
import Derived.Test.YtenibcbodjkglaaM2
import Derived.Deep.DeepCutAuto
import Derived.Deep.CutBlock
set_option linter.unusedVariables false
set_option linter.unusedSimpArgs false
namespace Go.Proofs.Ytenibcbodjkglaa
open Go.RowKit

set_option maxHeartbeats 4000000 in
set_option maxRecDepth 100000 in
theorem numbers_any (g : Nat) (w : World) :
    Calls Try.prog 27 #[.pointer (some ⟨g, 0, none⟩)] w fun e w' => e = .returned (.agg #[.pointer (some ⟨g, 3, none⟩), .pointer (some ⟨g, 4, none⟩), .pointer (some ⟨g, 5, none⟩), .pointer (some ⟨g, 6, none⟩)]) ∧ Below w.heap.size w w' := by
  have hL : (loadVar 56 ⟨w.heap.size, 0, none⟩).run Try.prog (w.alloc (.cells #[.pointer (some ⟨g, 3, none⟩), .pointer (some ⟨g, 4, none⟩), .pointer (some ⟨g, 5, none⟩), .pointer (some ⟨g, 6, none⟩)] 56)).drew = .ok (.agg #[.pointer (some ⟨g, 3, none⟩), .pointer (some ⟨g, 4, none⟩), .pointer (some ⟨g, 5, none⟩), .pointer (some ⟨g, 6, none⟩)]) (w.alloc (.cells #[.pointer (some ⟨g, 3, none⟩), .pointer (some ⟨g, 4, none⟩), .pointer (some ⟨g, 5, none⟩), .pointer (some ⟨g, 6, none⟩)] 56)).drew :=
    run_loadVar_row _ w.heap.size 56 56 _ (0, 0) _ (heap_alloc_new w _) Try.underlying56 rfl (by kernel_rfl)
  go_enter Try.func27, Try.ntmps27
  go_wp2
  go_region
  go_wp2
  exact bodyPost_ret (by simp [results, Try.results27, asAddr, hL]) rfl ⟨rfl, below_drew ((Below.refl _ _).alloc (Nat.le_refl _) _)⟩

set_option maxHeartbeats 4000000 in
set_option maxRecDepth 100000 in
theorem heads_any (g : Nat) (w : World) :
    Calls Try.prog 25 #[.pointer (some ⟨g, 0, none⟩)] w fun e w' => e = .returned (.agg #[.pointer (some ⟨g, 0, none⟩), .pointer (some ⟨g, 1, none⟩), .pointer (some ⟨g, 2, none⟩)]) ∧ Below w.heap.size w w' := by
  have hL : (loadVar 53 ⟨w.heap.size, 0, none⟩).run Try.prog (w.alloc (.cells #[.pointer (some ⟨g, 0, none⟩), .pointer (some ⟨g, 1, none⟩), .pointer (some ⟨g, 2, none⟩)] 53)).drew = .ok (.agg #[.pointer (some ⟨g, 0, none⟩), .pointer (some ⟨g, 1, none⟩), .pointer (some ⟨g, 2, none⟩)]) (w.alloc (.cells #[.pointer (some ⟨g, 0, none⟩), .pointer (some ⟨g, 1, none⟩), .pointer (some ⟨g, 2, none⟩)] 53)).drew :=
    run_loadVar_row _ w.heap.size 53 53 _ (0, 0) _ (heap_alloc_new w _) Try.underlying53 rfl (by kernel_rfl)
  go_enter Try.func25, Try.ntmps25
  go_wp2
  go_region
  go_wp2
  exact bodyPost_ret (by simp [results, Try.results25, asAddr, hL]) rfl ⟨rfl, below_drew ((Below.refl _ _).alloc (Nat.le_refl _) _)⟩

theorem nix0 (g : Nat) (W : World) : (Instr.index 56 (.agg #[.pointer (some ⟨g, 3, none⟩), .pointer (some ⟨g, 4, none⟩), .pointer (some ⟨g, 5, none⟩), .pointer (some ⟨g, 6, none⟩)]) (.int .i64 0)).run Try.prog W = .ok (.pointer (some ⟨g, 3, none⟩)) W := by kernel_rfl
theorem nix1 (g : Nat) (W : World) : (Instr.index 56 (.agg #[.pointer (some ⟨g, 3, none⟩), .pointer (some ⟨g, 4, none⟩), .pointer (some ⟨g, 5, none⟩), .pointer (some ⟨g, 6, none⟩)]) (.int .i64 1)).run Try.prog W = .ok (.pointer (some ⟨g, 4, none⟩)) W := by kernel_rfl
theorem nix2 (g : Nat) (W : World) : (Instr.index 56 (.agg #[.pointer (some ⟨g, 3, none⟩), .pointer (some ⟨g, 4, none⟩), .pointer (some ⟨g, 5, none⟩), .pointer (some ⟨g, 6, none⟩)]) (.int .i64 2)).run Try.prog W = .ok (.pointer (some ⟨g, 5, none⟩)) W := by kernel_rfl
theorem nix3 (g : Nat) (W : World) : (Instr.index 56 (.agg #[.pointer (some ⟨g, 3, none⟩), .pointer (some ⟨g, 4, none⟩), .pointer (some ⟨g, 5, none⟩), .pointer (some ⟨g, 6, none⟩)]) (.int .i64 3)).run Try.prog W = .ok (.pointer (some ⟨g, 6, none⟩)) W := by kernel_rfl
theorem hix0 (g : Nat) (W : World) : (Instr.index 53 (.agg #[.pointer (some ⟨g, 0, none⟩), .pointer (some ⟨g, 1, none⟩), .pointer (some ⟨g, 2, none⟩)]) (.int .i64 0)).run Try.prog W = .ok (.pointer (some ⟨g, 0, none⟩)) W := by kernel_rfl
theorem hix1 (g : Nat) (W : World) : (Instr.index 53 (.agg #[.pointer (some ⟨g, 0, none⟩), .pointer (some ⟨g, 1, none⟩), .pointer (some ⟨g, 2, none⟩)]) (.int .i64 1)).run Try.prog W = .ok (.pointer (some ⟨g, 1, none⟩)) W := by kernel_rfl
theorem hix2 (g : Nat) (W : World) : (Instr.index 53 (.agg #[.pointer (some ⟨g, 0, none⟩), .pointer (some ⟨g, 1, none⟩), .pointer (some ⟨g, 2, none⟩)]) (.int .i64 2)).run Try.prog W = .ok (.pointer (some ⟨g, 2, none⟩)) W := by kernel_rfl
def msameB (ge ph tg tx rt pg li : Int) (xs : List UInt8) (ge' ph' tg' tx' rt' pg' li' : Int) (ys : List UInt8) : Bool := decide (tx = tx' ∧ rt = rt' ∧ pg = pg' ∧ li = li' ∧ ge = ge' ∧ ph = ph' ∧ tg = tg' ∧ xs = ys)
/-- Two metas, and a copy of each, in memory. -/
structure MM (w : World) (N X Y : Nat) (u v : Array Value) (W : World) : Prop where
  r0 : W.heap[N]? = some (.cells u 26)
  r1 : W.heap[N + 1]? = some (.cells v 26)
  r2 : W.heap[X]? = some (.cells u 26)
  r3 : W.heap[Y]? = some (.cells v 26)
  bel : Below w.heap.size w W
theorem MM.step {w W W1 : World} {N X Y : Nat} {u v : Array Value} (h : MM w N X Y u v W) (hB : Below W.heap.size W W1) : MM w N X Y u v W1 :=
  ⟨(hB.block _ (Array.getElem?_eq_some_iff.1 h.r0).1).trans h.r0, (hB.block _ (Array.getElem?_eq_some_iff.1 h.r1).1).trans h.r1, (hB.block _ (Array.getElem?_eq_some_iff.1 h.r2).1).trans h.r2, (hB.block _ (Array.getElem?_eq_some_iff.1 h.r3).1).trans h.r3, below_then h.bel h.bel.size hB⟩

theorem mm_a (w : World) (u v : Array Value) : MM w w.heap.size (w.heap.size + 2) (w.heap.size + 3) u v (((((w.alloc (.cells u 26)).alloc (.cells v 26)).alloc (.cells u 26)).alloc (.cells v 26)).drew) :=
  ⟨by have := heap_alloc_new w (.cells u 26); (try simp only [World.size_alloc] at this); exact (Below.heap_alloc _ _ _ (by simp <;> omega)).trans ((Below.heap_alloc _ _ _ (by simp <;> omega)).trans ((Below.heap_alloc _ _ _ (by simp <;> omega)).trans (this))), by have := heap_alloc_new (w.alloc (.cells u 26)) (.cells v 26); (try simp only [World.size_alloc] at this); exact (Below.heap_alloc _ _ _ (by simp <;> omega)).trans ((Below.heap_alloc _ _ _ (by simp <;> omega)).trans (this)), by have := heap_alloc_new ((w.alloc (.cells u 26)).alloc (.cells v 26)) (.cells u 26); (try simp only [World.size_alloc] at this); exact (Below.heap_alloc _ _ _ (by simp <;> omega)).trans (this), by have := heap_alloc_new (((w.alloc (.cells u 26)).alloc (.cells v 26)).alloc (.cells u 26)) (.cells v 26); (try simp only [World.size_alloc] at this); exact this, below_drew ((((((Below.refl w.heap.size w).alloc (Nat.le_refl _) _).alloc (by simp) _).alloc (by simp <;> omega) _).alloc (by simp <;> omega) _))⟩

theorem mm_b (w : World) (u v : Array Value) : MM w w.heap.size (w.heap.size + 3) (w.heap.size + 2) u v (((((w.alloc (.cells u 26)).alloc (.cells v 26)).alloc (.cells v 26)).alloc (.cells u 26)).drew) :=
  ⟨by have := heap_alloc_new w (.cells u 26); (try simp only [World.size_alloc] at this); exact (Below.heap_alloc _ _ _ (by simp <;> omega)).trans ((Below.heap_alloc _ _ _ (by simp <;> omega)).trans ((Below.heap_alloc _ _ _ (by simp <;> omega)).trans (this))), by have := heap_alloc_new (w.alloc (.cells u 26)) (.cells v 26); (try simp only [World.size_alloc] at this); exact (Below.heap_alloc _ _ _ (by simp <;> omega)).trans ((Below.heap_alloc _ _ _ (by simp <;> omega)).trans (this)), by have := heap_alloc_new (((w.alloc (.cells u 26)).alloc (.cells v 26)).alloc (.cells v 26)) (.cells u 26); (try simp only [World.size_alloc] at this); exact this, by have := heap_alloc_new ((w.alloc (.cells u 26)).alloc (.cells v 26)) (.cells v 26); (try simp only [World.size_alloc] at this); exact (Below.heap_alloc _ _ _ (by simp <;> omega)).trans (this), below_drew ((((((Below.refl w.heap.size w).alloc (Nat.le_refl _) _).alloc (by simp) _).alloc (by simp <;> omega) _).alloc (by simp <;> omega) _))⟩

set_option maxHeartbeats 4000000 in
set_option maxRecDepth 100000 in
theorem msame_any (ge ph tg tx rt pg li : Int) (A : Option Addr) (n c : Nat) (xs : List UInt8) (ge' ph' tg' tx' rt' pg' li' : Int) (A' : Option Addr) (n' c' : Nat) (ys : List UInt8) (w : World) (hx : Bs w A n c xs) (hy : Bs w A' n' c' ys) :
    Calls Try.prog 16 #[.agg #[.int .i64 ge, .int .i64 ph, .int .i64 tg, .int .i64 tx, .int .i64 rt, .int .i64 pg, .int .i64 li, .slice A n c], .agg #[.int .i64 ge', .int .i64 ph', .int .i64 tg', .int .i64 tx', .int .i64 rt', .int .i64 pg', .int .i64 li', .slice A' n' c']] w fun e w' => e = .returned (.bool (msameB ge ph tg tx rt pg li xs ge' ph' tg' tx' rt' pg' li' ys)) ∧ Below w.heap.size w w' := by
  have HX := Aside0.mk (And.intro hx hy)
  clear hx hy
  go_enter Try.func16, Try.ntmps16
  go_upto_region 1 with fail
  go_cut [5, 6] (fun v5 v6 wx => ∃ X Y, v5 = .pointer (some ⟨X, 0, none⟩) ∧ v6 = .pointer (some ⟨Y, 0, none⟩) ∧ Aside0 (MM w w.heap.size X Y #[.int .i64 ge, .int .i64 ph, .int .i64 tg, .int .i64 tx, .int .i64 rt, .int .i64 pg, .int .i64 li, .slice A n c] #[.int .i64 ge', .int .i64 ph', .int .i64 tg', .int .i64 tx', .int .i64 rt', .int .i64 pg', .int .i64 li', .slice A' n' c'] wx))
  case first =>
    go_region
    all_goals (go_wp2_with fail)
    all_goals go_meet
    all_goals (first | exact ⟨w.heap.size + 2, w.heap.size + 3, rfl, rfl, ⟨mm_a w _ _⟩⟩ | exact ⟨w.heap.size + 3, w.heap.size + 2, rfl, rfl, ⟨mm_b w _ _⟩⟩)
  case rest =>
    obtain ⟨X, Y, rfl, rfl, HM⟩ := hcut
    go_wp2_with (go_at_call 27; refine (numbers_any X _).mono ?_; rintro e w1 ⟨rfl, hB1⟩)
    have HM1 := Aside0.mk (HM.out.step hB1)
    clear HM hB1
    go_loopg [14] 4 (fun k v wr => ∃ j : Nat, Aside (k + j = 4) ∧ v = .int .i64 (j : Int) ∧ Aside0 (MM w w.heap.size X Y #[.int .i64 ge, .int .i64 ph, .int .i64 tg, .int .i64 tx, .int .i64 rt, .int .i64 pg, .int .i64 li, .slice A n c] #[.int .i64 ge', .int .i64 ph', .int .i64 tg', .int .i64 tx', .int .i64 rt', .int .i64 pg', .int .i64 li', .slice A' n' c'] wr) ∧ Aside0 ((0 < j → tx = tx') ∧ (1 < j → rt = rt') ∧ (2 < j → pg = pg') ∧ (3 < j → li = li')))
    case atStart => exact ⟨0, rfl, rfl, HM1, ⟨fun h => absurd h (by decide), fun h => absurd h (by decide), fun h => absurd h (by decide), fun h => absurd h (by decide)⟩⟩
    case round =>
      obtain ⟨j, hk, rfl, hI, HP4⟩ := hrel
      have hjb : j ≤ 4 := by have := hk.out; omega
      rcases (show j = 0 ∨ j = 1 ∨ j = 2 ∨ j = 3 ∨ j = 4 by omega) with rfl | rfl | rfl | rfl | rfl
      · obtain ⟨z0, z1, z2, z3, z4, z5, z6, z7⟩ := row8_cells hI.out.r2
        obtain ⟨y0, y1, y2, y3, y4, y5, y6, y7⟩ := row8_cells hI.out.r3
        have ix1 := nix0 X
        have ix2 := nix0 Y
        by_cases he : tx = tx'
        · have f1 : (tx != tx') = false := by simp [he]
          have HE := Aside0.mk he
          clear he
          go_upto_region 5 with fail
          refine wp_region_ext (by kernel_rfl) (by kernel_rfl) ?_
          have xz := cell_ext z3
          have xy := cell_ext y3
          repeat (go_big_quiet_step ((go_at_call 27; exact Calls.ext_of (numbers_any Y _))))
          refine wpQuiet_nil ?_
          rintro w' ⟨kx, rfl⟩
          have HJ := Aside0.mk (hI.out.step kx.bel)
          clear hI z0 z1 z2 z3 z4 z5 z6 z7 y0 y1 y2 y3 y4 y5 y6 y7 xz xy
          go_wp2_with fail
          go_roundg (4 - (0 + 1))
          case measure => have := hk.out; omega
          case rel => exact ⟨0 + 1, rfl, by go_num, HJ, ⟨fun _ => HE.out, fun h => absurd h (by decide), fun h => absurd h (by decide), fun h => absurd h (by decide)⟩⟩
        · have f1 : (tx != tx') = true := by simp [he]
          have hv := Aside0.mk (show msameB ge ph tg tx rt pg li xs ge' ph' tg' tx' rt' pg' li' ys = false from decide_eq_false (fun k => he (by obtain ⟨k0, k1, k2, k3, k4, k5, k6, k7⟩ := k; assumption)))
          clear he
          go_upto_region 5 with fail
          refine wp_region_ext (by kernel_rfl) (by kernel_rfl) ?_
          have xz := cell_ext z3
          have xy := cell_ext y3
          repeat (go_big_quiet_step ((go_at_call 27; exact Calls.ext_of (numbers_any Y _))))
          refine wpQuiet_nil ?_
          rintro w' ⟨kx, rfl⟩
          have HJ := Aside0.mk (hI.out.step kx.bel)
          clear hI z0 z1 z2 z3 z4 z5 z6 z7 y0 y1 y2 y3 y4 y5 y6 y7 xz xy
          go_wp2_with fail
          go_ret
          exact ⟨ret_bool hv.out.symm, HJ.out.bel⟩
      · obtain ⟨z0, z1, z2, z3, z4, z5, z6, z7⟩ := row8_cells hI.out.r2
        obtain ⟨y0, y1, y2, y3, y4, y5, y6, y7⟩ := row8_cells hI.out.r3
        have ix1 := nix1 X
        have ix2 := nix1 Y
        by_cases he : rt = rt'
        · have f1 : (rt != rt') = false := by simp [he]
          have HE := Aside0.mk he
          clear he
          go_upto_region 5 with fail
          refine wp_region_ext (by kernel_rfl) (by kernel_rfl) ?_
          have xz := cell_ext z4
          have xy := cell_ext y4
          repeat (go_big_quiet_step ((go_at_call 27; exact Calls.ext_of (numbers_any Y _))))
          refine wpQuiet_nil ?_
          rintro w' ⟨kx, rfl⟩
          have HJ := Aside0.mk (hI.out.step kx.bel)
          clear hI z0 z1 z2 z3 z4 z5 z6 z7 y0 y1 y2 y3 y4 y5 y6 y7 xz xy
          go_wp2_with fail
          go_roundg (4 - (1 + 1))
          case measure => have := hk.out; omega
          case rel => exact ⟨1 + 1, rfl, by go_num, HJ, ⟨fun _ => HP4.out.1 (by decide), fun _ => HE.out, fun h => absurd h (by decide), fun h => absurd h (by decide)⟩⟩
        · have f1 : (rt != rt') = true := by simp [he]
          have hv := Aside0.mk (show msameB ge ph tg tx rt pg li xs ge' ph' tg' tx' rt' pg' li' ys = false from decide_eq_false (fun k => he (by obtain ⟨k0, k1, k2, k3, k4, k5, k6, k7⟩ := k; assumption)))
          clear he
          go_upto_region 5 with fail
          refine wp_region_ext (by kernel_rfl) (by kernel_rfl) ?_
          have xz := cell_ext z4
          have xy := cell_ext y4
          repeat (go_big_quiet_step ((go_at_call 27; exact Calls.ext_of (numbers_any Y _))))
          refine wpQuiet_nil ?_
          rintro w' ⟨kx, rfl⟩
          have HJ := Aside0.mk (hI.out.step kx.bel)
          clear hI z0 z1 z2 z3 z4 z5 z6 z7 y0 y1 y2 y3 y4 y5 y6 y7 xz xy
          go_wp2_with fail
          go_ret
          exact ⟨ret_bool hv.out.symm, HJ.out.bel⟩
      · obtain ⟨z0, z1, z2, z3, z4, z5, z6, z7⟩ := row8_cells hI.out.r2
        obtain ⟨y0, y1, y2, y3, y4, y5, y6, y7⟩ := row8_cells hI.out.r3
        have ix1 := nix2 X
        have ix2 := nix2 Y
        by_cases he : pg = pg'
        · have f1 : (pg != pg') = false := by simp [he]
          have HE := Aside0.mk he
          clear he
          go_upto_region 5 with fail
          refine wp_region_ext (by kernel_rfl) (by kernel_rfl) ?_
          have xz := cell_ext z5
          have xy := cell_ext y5
          repeat (go_big_quiet_step ((go_at_call 27; exact Calls.ext_of (numbers_any Y _))))
          refine wpQuiet_nil ?_
          rintro w' ⟨kx, rfl⟩
          have HJ := Aside0.mk (hI.out.step kx.bel)
          clear hI z0 z1 z2 z3 z4 z5 z6 z7 y0 y1 y2 y3 y4 y5 y6 y7 xz xy
          go_wp2_with fail
          go_roundg (4 - (2 + 1))
          case measure => have := hk.out; omega
          case rel => exact ⟨2 + 1, rfl, by go_num, HJ, ⟨fun _ => HP4.out.1 (by decide), fun _ => HP4.out.2.1 (by decide), fun _ => HE.out, fun h => absurd h (by decide)⟩⟩
        · have f1 : (pg != pg') = true := by simp [he]
          have hv := Aside0.mk (show msameB ge ph tg tx rt pg li xs ge' ph' tg' tx' rt' pg' li' ys = false from decide_eq_false (fun k => he (by obtain ⟨k0, k1, k2, k3, k4, k5, k6, k7⟩ := k; assumption)))
          clear he
          go_upto_region 5 with fail
          refine wp_region_ext (by kernel_rfl) (by kernel_rfl) ?_
          have xz := cell_ext z5
          have xy := cell_ext y5
          repeat (go_big_quiet_step ((go_at_call 27; exact Calls.ext_of (numbers_any Y _))))
          refine wpQuiet_nil ?_
          rintro w' ⟨kx, rfl⟩
          have HJ := Aside0.mk (hI.out.step kx.bel)
          clear hI z0 z1 z2 z3 z4 z5 z6 z7 y0 y1 y2 y3 y4 y5 y6 y7 xz xy
          go_wp2_with fail
          go_ret
          exact ⟨ret_bool hv.out.symm, HJ.out.bel⟩
      · obtain ⟨z0, z1, z2, z3, z4, z5, z6, z7⟩ := row8_cells hI.out.r2
        obtain ⟨y0, y1, y2, y3, y4, y5, y6, y7⟩ := row8_cells hI.out.r3
        have ix1 := nix3 X
        have ix2 := nix3 Y
        by_cases he : li = li'
        · have f1 : (li != li') = false := by simp [he]
          have HE := Aside0.mk he
          clear he
          go_upto_region 5 with fail
          refine wp_region_ext (by kernel_rfl) (by kernel_rfl) ?_
          have xz := cell_ext z6
          have xy := cell_ext y6
          repeat (go_big_quiet_step ((go_at_call 27; exact Calls.ext_of (numbers_any Y _))))
          refine wpQuiet_nil ?_
          rintro w' ⟨kx, rfl⟩
          have HJ := Aside0.mk (hI.out.step kx.bel)
          clear hI z0 z1 z2 z3 z4 z5 z6 z7 y0 y1 y2 y3 y4 y5 y6 y7 xz xy
          go_wp2_with fail
          go_roundg (4 - (3 + 1))
          case measure => have := hk.out; omega
          case rel => exact ⟨3 + 1, rfl, by go_num, HJ, ⟨fun _ => HP4.out.1 (by decide), fun _ => HP4.out.2.1 (by decide), fun _ => HP4.out.2.2.1 (by decide), fun _ => HE.out⟩⟩
        · have f1 : (li != li') = true := by simp [he]
          have hv := Aside0.mk (show msameB ge ph tg tx rt pg li xs ge' ph' tg' tx' rt' pg' li' ys = false from decide_eq_false (fun k => he (by obtain ⟨k0, k1, k2, k3, k4, k5, k6, k7⟩ := k; assumption)))
          clear he
          go_upto_region 5 with fail
          refine wp_region_ext (by kernel_rfl) (by kernel_rfl) ?_
          have xz := cell_ext z6
          have xy := cell_ext y6
          repeat (go_big_quiet_step ((go_at_call 27; exact Calls.ext_of (numbers_any Y _))))
          refine wpQuiet_nil ?_
          rintro w' ⟨kx, rfl⟩
          have HJ := Aside0.mk (hI.out.step kx.bel)
          clear hI z0 z1 z2 z3 z4 z5 z6 z7 y0 y1 y2 y3 y4 y5 y6 y7 xz xy
          go_wp2_with fail
          go_ret
          exact ⟨ret_bool hv.out.symm, HJ.out.bel⟩
      · go_wp2_with (go_at_call 25; refine (heads_any X _).mono ?_; rintro e w2 ⟨rfl, hB2⟩)
        have HM1 := Aside0.mk (hI.out.step hB2)
        clear hI hB2 hk hjb
        go_loopg [29] 3 (fun k v wr => ∃ j : Nat, Aside (k + j = 3) ∧ v = .int .i64 (j : Int) ∧ Aside0 (MM w w.heap.size X Y #[.int .i64 ge, .int .i64 ph, .int .i64 tg, .int .i64 tx, .int .i64 rt, .int .i64 pg, .int .i64 li, .slice A n c] #[.int .i64 ge', .int .i64 ph', .int .i64 tg', .int .i64 tx', .int .i64 rt', .int .i64 pg', .int .i64 li', .slice A' n' c'] wr) ∧ Aside0 ((0 < j → ge = ge') ∧ (1 < j → ph = ph') ∧ (2 < j → tg = tg')))
        case atStart => exact ⟨0, rfl, rfl, HM1, ⟨fun h => absurd h (by decide), fun h => absurd h (by decide), fun h => absurd h (by decide)⟩⟩
        case round =>
          obtain ⟨j, hk, rfl, hI, HP3⟩ := hrel
          have hjb : j ≤ 3 := by have := hk.out; omega
          rcases (show j = 0 ∨ j = 1 ∨ j = 2 ∨ j = 3 by omega) with rfl | rfl | rfl | rfl
          · obtain ⟨z0, z1, z2, z3, z4, z5, z6, z7⟩ := row8_cells hI.out.r2
            obtain ⟨y0, y1, y2, y3, y4, y5, y6, y7⟩ := row8_cells hI.out.r3
            have ix1 := hix0 X
            have ix2 := hix0 Y
            by_cases he : ge = ge'
            · have f1 : (ge != ge') = false := by simp [he]
              have HE := Aside0.mk he
              clear he
              go_upto_region 11 with fail
              refine wp_region_ext (by kernel_rfl) (by kernel_rfl) ?_
              have xz := cell_ext z0
              have xy := cell_ext y0
              repeat (go_big_quiet_step ((go_at_call 25; exact Calls.ext_of (heads_any Y _))))
              refine wpQuiet_nil ?_
              rintro w' ⟨kx, rfl⟩
              have HJ := Aside0.mk (hI.out.step kx.bel)
              clear hI z0 z1 z2 z3 z4 z5 z6 z7 y0 y1 y2 y3 y4 y5 y6 y7 xz xy
              go_wp2_with fail
              go_roundg (3 - (0 + 1))
              case measure => have := hk.out; omega
              case rel => exact ⟨0 + 1, rfl, by go_num, HJ, ⟨fun _ => HE.out, fun h => absurd h (by decide), fun h => absurd h (by decide)⟩⟩
            · have f1 : (ge != ge') = true := by simp [he]
              have hv := Aside0.mk (show msameB ge ph tg tx rt pg li xs ge' ph' tg' tx' rt' pg' li' ys = false from decide_eq_false (fun k => he (by obtain ⟨k0, k1, k2, k3, k4, k5, k6, k7⟩ := k; assumption)))
              clear he
              go_upto_region 11 with fail
              refine wp_region_ext (by kernel_rfl) (by kernel_rfl) ?_
              have xz := cell_ext z0
              have xy := cell_ext y0
              repeat (go_big_quiet_step ((go_at_call 25; exact Calls.ext_of (heads_any Y _))))
              refine wpQuiet_nil ?_
              rintro w' ⟨kx, rfl⟩
              have HJ := Aside0.mk (hI.out.step kx.bel)
              clear hI z0 z1 z2 z3 z4 z5 z6 z7 y0 y1 y2 y3 y4 y5 y6 y7 xz xy
              go_wp2_with fail
              go_ret
              exact ⟨ret_bool hv.out.symm, HJ.out.bel⟩
          · obtain ⟨z0, z1, z2, z3, z4, z5, z6, z7⟩ := row8_cells hI.out.r2
            obtain ⟨y0, y1, y2, y3, y4, y5, y6, y7⟩ := row8_cells hI.out.r3
            have ix1 := hix1 X
            have ix2 := hix1 Y
            by_cases he : ph = ph'
            · have f1 : (ph != ph') = false := by simp [he]
              have HE := Aside0.mk he
              clear he
              go_upto_region 11 with fail
              refine wp_region_ext (by kernel_rfl) (by kernel_rfl) ?_
              have xz := cell_ext z1
              have xy := cell_ext y1
              repeat (go_big_quiet_step ((go_at_call 25; exact Calls.ext_of (heads_any Y _))))
              refine wpQuiet_nil ?_
              rintro w' ⟨kx, rfl⟩
              have HJ := Aside0.mk (hI.out.step kx.bel)
              clear hI z0 z1 z2 z3 z4 z5 z6 z7 y0 y1 y2 y3 y4 y5 y6 y7 xz xy
              go_wp2_with fail
              go_roundg (3 - (1 + 1))
              case measure => have := hk.out; omega
              case rel => exact ⟨1 + 1, rfl, by go_num, HJ, ⟨fun _ => HP3.out.1 (by decide), fun _ => HE.out, fun h => absurd h (by decide)⟩⟩
            · have f1 : (ph != ph') = true := by simp [he]
              have hv := Aside0.mk (show msameB ge ph tg tx rt pg li xs ge' ph' tg' tx' rt' pg' li' ys = false from decide_eq_false (fun k => he (by obtain ⟨k0, k1, k2, k3, k4, k5, k6, k7⟩ := k; assumption)))
              clear he
              go_upto_region 11 with fail
              refine wp_region_ext (by kernel_rfl) (by kernel_rfl) ?_
              have xz := cell_ext z1
              have xy := cell_ext y1
              repeat (go_big_quiet_step ((go_at_call 25; exact Calls.ext_of (heads_any Y _))))
              refine wpQuiet_nil ?_
              rintro w' ⟨kx, rfl⟩
              have HJ := Aside0.mk (hI.out.step kx.bel)
              clear hI z0 z1 z2 z3 z4 z5 z6 z7 y0 y1 y2 y3 y4 y5 y6 y7 xz xy
              go_wp2_with fail
              go_ret
              exact ⟨ret_bool hv.out.symm, HJ.out.bel⟩
          · obtain ⟨z0, z1, z2, z3, z4, z5, z6, z7⟩ := row8_cells hI.out.r2
            obtain ⟨y0, y1, y2, y3, y4, y5, y6, y7⟩ := row8_cells hI.out.r3
            have ix1 := hix2 X
            have ix2 := hix2 Y
            by_cases he : tg = tg'
            · have f1 : (tg != tg') = false := by simp [he]
              have HE := Aside0.mk he
              clear he
              go_upto_region 11 with fail
              refine wp_region_ext (by kernel_rfl) (by kernel_rfl) ?_
              have xz := cell_ext z2
              have xy := cell_ext y2
              repeat (go_big_quiet_step ((go_at_call 25; exact Calls.ext_of (heads_any Y _))))
              refine wpQuiet_nil ?_
              rintro w' ⟨kx, rfl⟩
              have HJ := Aside0.mk (hI.out.step kx.bel)
              clear hI z0 z1 z2 z3 z4 z5 z6 z7 y0 y1 y2 y3 y4 y5 y6 y7 xz xy
              go_wp2_with fail
              go_roundg (3 - (2 + 1))
              case measure => have := hk.out; omega
              case rel => exact ⟨2 + 1, rfl, by go_num, HJ, ⟨fun _ => HP3.out.1 (by decide), fun _ => HP3.out.2.1 (by decide), fun _ => HE.out⟩⟩
            · have f1 : (tg != tg') = true := by simp [he]
              have hv := Aside0.mk (show msameB ge ph tg tx rt pg li xs ge' ph' tg' tx' rt' pg' li' ys = false from decide_eq_false (fun k => he (by obtain ⟨k0, k1, k2, k3, k4, k5, k6, k7⟩ := k; assumption)))
              clear he
              go_upto_region 11 with fail
              refine wp_region_ext (by kernel_rfl) (by kernel_rfl) ?_
              have xz := cell_ext z2
              have xy := cell_ext y2
              repeat (go_big_quiet_step ((go_at_call 25; exact Calls.ext_of (heads_any Y _))))
              refine wpQuiet_nil ?_
              rintro w' ⟨kx, rfl⟩
              have HJ := Aside0.mk (hI.out.step kx.bel)
              clear hI z0 z1 z2 z3 z4 z5 z6 z7 y0 y1 y2 y3 y4 y5 y6 y7 xz xy
              go_wp2_with fail
              go_ret
              exact ⟨ret_bool hv.out.symm, HJ.out.bel⟩
          · obtain ⟨u0, u1, u2, u3, u4', u5', u6', u7'⟩ := row8_cells hI.out.r0
            obtain ⟨v0, v1, v2, v3, v4, v5, v6, v7⟩ := row8_cells hI.out.r1
            have hv := Aside0.mk (show msameB ge ph tg tx rt pg li xs ge' ph' tg' tx' rt' pg' li' ys = (xs == ys) from by
              unfold msameB
              rw [Bool.eq_iff_iff, decide_eq_true_iff, beq_iff_eq]
              exact ⟨fun k => k.2.2.2.2.2.2.2, fun k => ⟨HP4.out.1 (by decide), HP4.out.2.1 (by decide), HP4.out.2.2.1 (by decide), HP4.out.2.2.2 (by decide), HP3.out.1 (by decide), HP3.out.2.1 (by decide), HP3.out.2.2 (by decide), k⟩⟩)
            go_wp2_with (go_at_call 12; refine (equal8_any A n c xs A' n' c' ys _ (HX.out.1.map fun a v h => (hI.out.bel.cell (World.block_lt_of_cell? w a h)).trans h) (HX.out.2.map fun a v h => (hI.out.bel.cell (World.block_lt_of_cell? w a h)).trans h)).mono ?_; rintro e w9 ⟨rfl, rfl⟩)
            go_ret
            exact ⟨ret_bool hv.out.symm, hI.out.bel⟩

end Go.Proofs.Ytenibcbodjkglaa
