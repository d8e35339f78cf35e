/- The walks of the reference's functions of layer 5. -/
import Derived.Test.YtaoaenjhclicfaaI4
set_option linter.unusedVariables false
set_option linter.unusedSimpArgs false
namespace Go.Proofs.Ytaoaenjhclicfaa
open Go.RowKit

set_option maxHeartbeats 1000000 in
theorem trait_any (g a b c : Int) (w : World) : Calls Try.prog 83 #[.int .i64 g, .int .i64 a, .int .i64 b, .int .i64 c] w fun e w' => e = .returned (.int .i64 (gen3 g a b c)) ∧ w = w' := by
  by_cases h1 : g = 1
  · subst h1
    go_enter Try.func83, Try.ntmps83
    go_wp2
    go_ret
    exact ⟨rfl, rfl⟩
  have e1 : (g == 1) = false := beq_f h1
  by_cases h2 : g = 2
  · subst h2
    go_enter Try.func83, Try.ntmps83
    go_wp2
    go_ret
    exact ⟨rfl, rfl⟩
  have e2 : (g == 2) = false := beq_f h2
  by_cases h3 : g = 3
  · subst h3
    go_enter Try.func83, Try.ntmps83
    go_wp2
    go_ret
    exact ⟨rfl, rfl⟩
  have e3 : (g == 3) = false := beq_f h3
  have hv := Aside0.mk (show gen3 g a b c = 0 by unfold gen3; rw [if_neg h1, if_neg h2, if_neg h3])
  clear h1 h2 h3
  go_enter Try.func83, Try.ntmps83
  go_wp2
  go_ret
  exact ⟨ret_int hv.out.symm, rfl⟩
set_option maxHeartbeats 1000000 in
theorem rMaxKey_any (g : Int) (w : World) : Calls Try.prog 29 #[.int .i64 g] w fun e w' => e = .returned (.int .i64 (mkI g)) ∧ w = w' := by
  go_enter Try.func29, Try.ntmps29
  go_wp2_with (go_at_call 83; refine (trait_any _ _ _ _ _).mono ?_; rintro e w1 ⟨rfl, rfl⟩)
  go_ret
  exact ⟨rfl, rfl⟩
set_option maxHeartbeats 1000000 in
theorem rMaxValue_any (g : Int) (w : World) : Calls Try.prog 31 #[.int .i64 g] w fun e w' => e = .returned (.int .i64 (mvI g)) ∧ w = w' := by
  go_enter Try.func31, Try.ntmps31
  go_wp2_with (go_at_call 83; refine (trait_any _ _ _ _ _).mono ?_; rintro e w1 ⟨rfl, rfl⟩)
  go_ret
  exact ⟨rfl, rfl⟩
set_option maxHeartbeats 1000000 in
theorem rIdWidth_any (g : Int) (w : World) : Calls Try.prog 33 #[.int .i64 g] w fun e w' => e = .returned (.int .i64 (iwI g)) ∧ w = w' := by
  go_enter Try.func33, Try.ntmps33
  go_wp2_with (go_at_call 83; refine (trait_any _ _ _ _ _).mono ?_; rintro e w1 ⟨rfl, rfl⟩)
  go_ret
  exact ⟨rfl, rfl⟩
set_option maxHeartbeats 1000000 in
theorem rHead_any (g : Int) (w : World) : Calls Try.prog 35 #[.int .i64 g] w fun e w' => e = .returned (.int .i64 (hdI g)) ∧ w = w' := by
  go_enter Try.func35, Try.ntmps35
  go_wp2_with (go_at_call 83; refine (trait_any _ _ _ _ _).mono ?_; rintro e w1 ⟨rfl, rfl⟩)
  go_ret
  exact ⟨rfl, rfl⟩
set_option maxHeartbeats 1000000 in
theorem rCap_any (g : Int) (w : World) : Calls Try.prog 37 #[.int .i64 g] w fun e w' => e = .returned (.int .i64 (cpI g)) ∧ w = w' := by
  go_enter Try.func37, Try.ntmps37
  go_wp2_with (go_at_call 83; refine (trait_any _ _ _ _ _).mono ?_; rintro e w1 ⟨rfl, rfl⟩)
  go_ret
  exact ⟨rfl, rfl⟩
set_option maxHeartbeats 1000000 in
set_option maxRecDepth 100000 in
theorem rfar_any (Ak : Option Addr) (nk ck : Nat) (Av : Option Addr) (nv cv : Nat) (s r : Int) (w : World) :
    Calls Try.prog 42 #[.agg #[.slice Ak nk ck, .slice Av nv cv, .int .i64 s, .int .i64 r]] w fun e w' => e = .returned (.bool (farB nv r)) ∧ Below w.heap.size w w' := by
  by_cases h : r = 0
  · subst h
    go_enter Try.func42, Try.ntmps42
    go_wp2
    go_ret
    exact ⟨ret_bool (by unfold farB; rw [Bool.eq_iff_iff]; simp; omega), (Below.refl _ _).alloc (Nat.le_refl _) _⟩
  · have h1 : (r == 0) = false := beq_f h
    have h2 : (r != 0) = true := bne_t h
    go_enter Try.func42, Try.ntmps42
    go_wp2
    go_ret
    exact ⟨ret_bool (by unfold farB; simp [h]), (Below.refl _ _).alloc (Nat.le_refl _) _⟩
set_option maxHeartbeats 1000000 in
set_option maxRecDepth 100000 in
theorem rlong_any (Ak : Option Addr) (nk ck : Nat) (Av : Option Addr) (nv cv : Nat) (s r : Int) (w : World) :
    Calls Try.prog 44 #[.agg #[.slice Ak nk ck, .slice Av nv cv, .int .i64 s, .int .i64 r]] w fun e w' => e = .returned (.int .i64 (longI nv s r)) ∧ Below w.heap.size w w' := by
  by_cases h : r = 0
  · subst h
    go_enter Try.func44, Try.ntmps44
    go_wp2
    go_ret
    exact ⟨ret_int (by unfold longI; simp), (Below.refl _ _).alloc (Nat.le_refl _) _⟩
  · have h1 : (r == 0) = false := beq_f h
    have h2 : (r != 0) = true := bne_t h
    go_enter Try.func44, Try.ntmps44
    go_wp2
    go_ret
    exact ⟨ret_int (by unfold longI; simp [h]), (Below.refl _ _).alloc (Nat.le_refl _) _⟩
theorem gen_lo {g : Int} (h : g < 1) : genB g = false := decide_eq_false (by omega)
theorem gen_hi {g : Int} (h : 3 < g) : genB g = false := decide_eq_false (by omega)
theorem gen_in {g : Int} (h : ¬ g < 1) (h2 : ¬ 3 < g) : genB g = true := decide_eq_true (by omega)
theorem dI_t {p : Prop} [Decidable p] (h : p) : decide p = true := decide_eq_true h
theorem dI_f {p : Prop} [Decidable p] (h : ¬ p) : decide p = false := decide_eq_false h
set_option maxHeartbeats 1000000 in
set_option maxRecDepth 100000 in
theorem rwhy_any (g : Int) (Ak : Option Addr) (nk ck : Nat) (Av : Option Addr) (nv cv : Nat) (w : World) (hk : nk ≤ 140737488355328) (hv : nv ≤ 140737488355328) :
    Calls Try.prog 49 #[.int .i64 g, .slice Ak nk ck, .slice Av nv cv] w fun e w' => e = .returned (.int .i64 (whyI g nk nv)) ∧ w = w' := by
  have HP : True := trivial
  by_cases h1 : g < 1
  · have f1 := dI_t h1
    have hg := Aside0.mk (gen_lo h1)
    have HV := Aside0.mk (show whyI g nk nv = 1 from by unfold whyI; rw [if_neg (by simp [hg.out])])
    clear HP
    go_enter Try.func49, Try.ntmps49
    go_wp2_with (first | (go_at_call 29; refine (rMaxKey_any _ _).mono ?_; rintro e w1 ⟨rfl, rfl⟩) | (go_at_call 31; refine (rMaxValue_any _ _).mono ?_; rintro e w1 ⟨rfl, rfl⟩))
    go_ret
    exact ⟨ret_int HV.out.symm, rfl⟩
  have f1 := dI_f h1
  by_cases h2 : 3 < g
  · have f2 := dI_t h2
    have hg := Aside0.mk (gen_hi h2)
    have HV := Aside0.mk (show whyI g nk nv = 1 from by unfold whyI; rw [if_neg (by simp [hg.out])])
    clear HP
    go_enter Try.func49, Try.ntmps49
    go_wp2_with (first | (go_at_call 29; refine (rMaxKey_any _ _).mono ?_; rintro e w1 ⟨rfl, rfl⟩) | (go_at_call 31; refine (rMaxValue_any _ _).mono ?_; rintro e w1 ⟨rfl, rfl⟩))
    go_ret
    exact ⟨ret_int HV.out.symm, rfl⟩
  have f2 := dI_f h2
  have hg := Aside0.mk (gen_in h1 h2)
  by_cases h3 : nk = 0
  · have h3' := Aside0.mk h3
    have f3 : decide ((nk : Int) < 1) = true := dI_t (by omega)
    clear h3
    have HV := Aside0.mk (show whyI g nk nv = 50 from by unfold whyI; rw [if_pos hg.out, if_pos (.inl h3'.out)])
    clear HP
    go_enter Try.func49, Try.ntmps49
    go_wp2_with (first | (go_at_call 29; refine (rMaxKey_any _ _).mono ?_; rintro e w1 ⟨rfl, rfl⟩) | (go_at_call 31; refine (rMaxValue_any _ _).mono ?_; rintro e w1 ⟨rfl, rfl⟩))
    go_ret
    exact ⟨ret_int HV.out.symm, rfl⟩
  have f3 : decide ((nk : Int) < 1) = false := dI_f (by omega)
  have h3' := Aside0.mk h3
  clear h3
  by_cases h4 : mkI g < (nk : Int)
  · have f4 := dI_t h4
    have HV := Aside0.mk (show whyI g nk nv = 50 from by unfold whyI; rw [if_pos hg.out, if_pos (.inr h4)])
    clear HP
    go_enter Try.func49, Try.ntmps49
    go_wp2_with (first | (go_at_call 29; refine (rMaxKey_any _ _).mono ?_; rintro e w1 ⟨rfl, rfl⟩) | (go_at_call 31; refine (rMaxValue_any _ _).mono ?_; rintro e w1 ⟨rfl, rfl⟩))
    go_ret
    exact ⟨ret_int HV.out.symm, rfl⟩
  have f4 := dI_f h4
  have h34 := Aside0.mk (show ¬ (nk = 0 ∨ mkI g < (nk : Int)) from fun h => h.elim h3'.out h4)
  clear h4
  by_cases h5 : mvI g < (nv : Int)
  · have f5 := dI_t h5
    have HV := Aside0.mk (show whyI g nk nv = 51 from by unfold whyI; rw [if_pos hg.out, if_neg h34.out, if_pos h5])
    clear HP
    go_enter Try.func49, Try.ntmps49
    go_wp2_with (first | (go_at_call 29; refine (rMaxKey_any _ _).mono ?_; rintro e w1 ⟨rfl, rfl⟩) | (go_at_call 31; refine (rMaxValue_any _ _).mono ?_; rintro e w1 ⟨rfl, rfl⟩))
    go_ret
    exact ⟨ret_int HV.out.symm, rfl⟩
  have f5 := dI_f h5
  have HV := Aside0.mk (show whyI g nk nv = 0 from by unfold whyI; rw [if_pos hg.out, if_neg h34.out, if_neg h5])
  clear HP
  go_enter Try.func49, Try.ntmps49
  go_wp2_with (first | (go_at_call 29; refine (rMaxKey_any _ _).mono ?_; rintro e w1 ⟨rfl, rfl⟩) | (go_at_call 31; refine (rMaxValue_any _ _).mono ?_; rintro e w1 ⟨rfl, rfl⟩))
  go_ret
  exact ⟨ret_int HV.out.symm, rfl⟩
theorem why0 {g : Int} {nk nv : Nat} (hg : genB g = true) (h1 : ¬ nk = 0) (h2 : ¬ mkI g < (nk : Int)) : whyI g nk nv = 0 ↔ (nv : Int) ≤ mvI g := by
  unfold whyI
  rw [if_pos hg, if_neg (fun h => h.elim h1 h2)]
  by_cases h : mvI g < (nv : Int)
  · rw [if_pos h]; constructor <;> intro h' <;> omega
  · rw [if_neg h]; constructor <;> intro h' <;> omega
theorem right_no {g : Int} {nk nv : Nat} {s r : Int} (h : whyI g nk nv ≠ 0) : rightB g nk nv s r = false := by
  unfold rightB
  rw [decide_eq_false (fun k => h k.1), Bool.false_and]
theorem right_0 {g : Int} {nk nv : Nat} {s : Int} (hg : genB g = true) (h1 : ¬ nk = 0) (h2 : ¬ mkI g < (nk : Int)) : rightB g nk nv s 0 = decide (s = 0 ∧ (nv : Int) ≤ mvI g) := by
  unfold rightB longI
  rw [if_pos rfl, if_pos rfl, ← Bool.decide_and]
  apply decide_eq_decide.2
  rw [why0 hg h1 h2]
  constructor
  · rintro ⟨⟨a, b⟩, c⟩; exact ⟨c, a⟩
  · rintro ⟨a, b⟩; exact ⟨⟨b, b⟩, a⟩
theorem mv_nat {g : Int} : (0 : Int) ≤ mvI g := (mv_range g).1
theorem right_r {g : Int} {nk nv : Nat} {s r : Int} (hg : genB g = true) (h1 : ¬ nk = 0) (h2 : ¬ mkI g < (nk : Int)) (hr : ¬ r = 0) : rightB g nk nv s r = decide (1 < r ∧ r < 16384 ∧ nv = 0 ∧ 32 < s ∧ s ≤ mvI g) := by
  unfold rightB longI
  rw [if_neg hr, if_neg hr, ← Bool.decide_and]
  apply decide_eq_decide.2
  rw [why0 hg h1 h2]
  have := mv_nat (g := g)
  constructor
  · rintro ⟨⟨a, b⟩, c, d, e, f⟩; exact ⟨by omega, d, f, e, b⟩
  · rintro ⟨a, b, c, d, e⟩; exact ⟨⟨by omega, e⟩, by omega, b, d, c⟩
set_option maxHeartbeats 2000000 in
set_option maxRecDepth 100000 in
theorem rright_any (g : Int) (Ak : Option Addr) (nk ck : Nat) (Av : Option Addr) (nv cv : Nat) (s r : Int) (w : World) (hk : nk ≤ 140737488355328) (hv : nv ≤ 140737488355328) :
    Calls Try.prog 40 #[.int .i64 g, .agg #[.slice Ak nk ck, .slice Av nv cv, .int .i64 s, .int .i64 r]] w fun e w' => e = .returned (.bool (rightB g nk nv s r)) ∧ Below w.heap.size w w' := by
  by_cases h1 : g < 1
  · have f1 := dI_t h1
    have hg := Aside0.mk (gen_lo h1)
    have HV := Aside0.mk (show rightB g nk nv s r = false from by exact right_no (by unfold whyI; rw [if_neg (by simp [hg.out])]; decide))
    go_enter Try.func40, Try.ntmps40
    go_wp2
    have I0 := Aside0.mk (IRow.mk0 (Below.refl _ (w.alloc (.cells #[.slice Ak nk ck, .slice Av nv cv, .int .i64 s, .int .i64 r] 38))))
    have k0 := cell_ext I0.out.cells.1
    refine wp_region_ext (by kernel_rfl) (by kernel_rfl) ?_
    repeat (go_big_quiet_step ((first | (go_at_call 29; exact Calls.ext_same (rMaxKey_any _ _)) | (go_at_call 31; exact Calls.ext_same (rMaxValue_any _ _)))))
    refine wpQuiet_nil ?_
    rintro w1 ⟨kx1, rfl⟩
    have I1 := Aside0.mk (I0.out.step kx1.bel)
    obtain ⟨c0, c1, c2, c3⟩ := I1.out.cells
    go_wp2
    go_ret
    exact ⟨ret_bool (by rw [HV.out]; first | done | rfl | (rw [Bool.eq_iff_iff]; simp)), I1.out.bel⟩
  have f1 := dI_f h1
  by_cases h2 : 3 < g
  · have f2 := dI_t h2
    have hg := Aside0.mk (gen_hi h2)
    have HV := Aside0.mk (show rightB g nk nv s r = false from by exact right_no (by unfold whyI; rw [if_neg (by simp [hg.out])]; decide))
    go_enter Try.func40, Try.ntmps40
    go_wp2
    have I0 := Aside0.mk (IRow.mk0 (Below.refl _ (w.alloc (.cells #[.slice Ak nk ck, .slice Av nv cv, .int .i64 s, .int .i64 r] 38))))
    have k0 := cell_ext I0.out.cells.1
    refine wp_region_ext (by kernel_rfl) (by kernel_rfl) ?_
    repeat (go_big_quiet_step ((first | (go_at_call 29; exact Calls.ext_same (rMaxKey_any _ _)) | (go_at_call 31; exact Calls.ext_same (rMaxValue_any _ _)))))
    refine wpQuiet_nil ?_
    rintro w1 ⟨kx1, rfl⟩
    have I1 := Aside0.mk (I0.out.step kx1.bel)
    obtain ⟨c0, c1, c2, c3⟩ := I1.out.cells
    go_wp2
    go_ret
    exact ⟨ret_bool (by rw [HV.out]; first | done | rfl | (rw [Bool.eq_iff_iff]; simp)), I1.out.bel⟩
  have f2 := dI_f h2
  have hg := Aside0.mk (gen_in h1 h2)
  by_cases h3 : nk = 0
  · have h3' := Aside0.mk h3
    have f3 : decide ((nk : Int) < 1) = true := dI_t (by omega)
    clear h3
    have HV := Aside0.mk (show rightB g nk nv s r = false from by exact right_no (by unfold whyI; rw [if_pos hg.out, if_pos (.inl h3'.out)]; decide))
    go_enter Try.func40, Try.ntmps40
    go_wp2
    have I0 := Aside0.mk (IRow.mk0 (Below.refl _ (w.alloc (.cells #[.slice Ak nk ck, .slice Av nv cv, .int .i64 s, .int .i64 r] 38))))
    have k0 := cell_ext I0.out.cells.1
    refine wp_region_ext (by kernel_rfl) (by kernel_rfl) ?_
    repeat (go_big_quiet_step ((first | (go_at_call 29; exact Calls.ext_same (rMaxKey_any _ _)) | (go_at_call 31; exact Calls.ext_same (rMaxValue_any _ _)))))
    refine wpQuiet_nil ?_
    rintro w1 ⟨kx1, rfl⟩
    have I1 := Aside0.mk (I0.out.step kx1.bel)
    obtain ⟨c0, c1, c2, c3⟩ := I1.out.cells
    go_wp2
    go_ret
    exact ⟨ret_bool (by rw [HV.out]; first | done | rfl | (rw [Bool.eq_iff_iff]; simp)), I1.out.bel⟩
  have f3 : decide ((nk : Int) < 1) = false := dI_f (by omega)
  have h3' := Aside0.mk h3
  clear h3
  by_cases h4 : mkI g < (nk : Int)
  · have f4 := dI_t h4
    have HV := Aside0.mk (show rightB g nk nv s r = false from by exact right_no (by unfold whyI; rw [if_pos hg.out, if_pos (.inr h4)]; decide))
    go_enter Try.func40, Try.ntmps40
    go_wp2
    have I0 := Aside0.mk (IRow.mk0 (Below.refl _ (w.alloc (.cells #[.slice Ak nk ck, .slice Av nv cv, .int .i64 s, .int .i64 r] 38))))
    have k0 := cell_ext I0.out.cells.1
    refine wp_region_ext (by kernel_rfl) (by kernel_rfl) ?_
    repeat (go_big_quiet_step ((first | (go_at_call 29; exact Calls.ext_same (rMaxKey_any _ _)) | (go_at_call 31; exact Calls.ext_same (rMaxValue_any _ _)))))
    refine wpQuiet_nil ?_
    rintro w1 ⟨kx1, rfl⟩
    have I1 := Aside0.mk (I0.out.step kx1.bel)
    obtain ⟨c0, c1, c2, c3⟩ := I1.out.cells
    go_wp2
    go_ret
    exact ⟨ret_bool (by rw [HV.out]; first | done | rfl | (rw [Bool.eq_iff_iff]; simp)), I1.out.bel⟩
  have f4 := dI_f h4
  have h4' := Aside0.mk h4
  clear h4
  by_cases h5 : r = 0
  · subst h5
    have hR := Aside0.mk (right_0 (nv := nv) (s := s) hg.out h3'.out h4'.out)
    by_cases h6 : s = 0
    · have f6 : (s == 0) = true := beq_t h6
      have h6' := Aside0.mk h6
      clear h6
      have HV := Aside0.mk (show rightB g nk nv s 0 = decide ((nv : Int) ≤ mvI g) from by rw [hR.out]; apply decide_eq_decide.2; exact ⟨fun h => h.2, fun h => ⟨h6'.out, h⟩⟩)
      go_enter Try.func40, Try.ntmps40
      go_wp2
      have I0 := Aside0.mk (IRow.mk0 (Below.refl _ (w.alloc (.cells #[.slice Ak nk ck, .slice Av nv cv, .int .i64 s, .int .i64 0] 38))))
      have k0 := cell_ext I0.out.cells.1
      refine wp_region_ext (by kernel_rfl) (by kernel_rfl) ?_
      repeat (go_big_quiet_step ((first | (go_at_call 29; exact Calls.ext_same (rMaxKey_any _ _)) | (go_at_call 31; exact Calls.ext_same (rMaxValue_any _ _)))))
      refine wpQuiet_nil ?_
      rintro w1 ⟨kx1, rfl⟩
      have I1 := Aside0.mk (I0.out.step kx1.bel)
      obtain ⟨c0, c1, c2, c3⟩ := I1.out.cells
      go_wp2
      have d1 := cell_ext c1
      have d2 := cell_ext c2
      have d3 := cell_ext c3
      refine wp_region_ext (by kernel_rfl) (by kernel_rfl) ?_
      repeat (go_big_quiet_step ((first | (go_at_call 29; exact Calls.ext_same (rMaxKey_any _ _)) | (go_at_call 31; exact Calls.ext_same (rMaxValue_any _ _)))))
      refine wpQuiet_nil ?_
      rintro w2 ⟨kx2, rfl⟩
      have I2 := Aside0.mk (I1.out.step kx2.bel)
      go_wp2
      go_ret
      exact ⟨ret_bool (by rw [HV.out]; first | done | rfl | (rw [Bool.eq_iff_iff]; simp)), I2.out.bel⟩
    · have f6 : (s == 0) = false := beq_f h6
      have HV := Aside0.mk (show rightB g nk nv s 0 = false from by rw [hR.out]; exact decide_eq_false (fun h => h6 h.1))
      go_enter Try.func40, Try.ntmps40
      go_wp2
      have I0 := Aside0.mk (IRow.mk0 (Below.refl _ (w.alloc (.cells #[.slice Ak nk ck, .slice Av nv cv, .int .i64 s, .int .i64 0] 38))))
      have k0 := cell_ext I0.out.cells.1
      refine wp_region_ext (by kernel_rfl) (by kernel_rfl) ?_
      repeat (go_big_quiet_step ((first | (go_at_call 29; exact Calls.ext_same (rMaxKey_any _ _)) | (go_at_call 31; exact Calls.ext_same (rMaxValue_any _ _)))))
      refine wpQuiet_nil ?_
      rintro w1 ⟨kx1, rfl⟩
      have I1 := Aside0.mk (I0.out.step kx1.bel)
      obtain ⟨c0, c1, c2, c3⟩ := I1.out.cells
      go_wp2
      have d1 := cell_ext c1
      have d2 := cell_ext c2
      have d3 := cell_ext c3
      refine wp_region_ext (by kernel_rfl) (by kernel_rfl) ?_
      repeat (go_big_quiet_step ((first | (go_at_call 29; exact Calls.ext_same (rMaxKey_any _ _)) | (go_at_call 31; exact Calls.ext_same (rMaxValue_any _ _)))))
      refine wpQuiet_nil ?_
      rintro w2 ⟨kx2, rfl⟩
      have I2 := Aside0.mk (I1.out.step kx2.bel)
      go_wp2
      go_ret
      exact ⟨ret_bool (by rw [HV.out]; first | done | rfl | (rw [Bool.eq_iff_iff]; simp)), I2.out.bel⟩
  · have f5 : (r == 0) = false := beq_f h5
    have hR := Aside0.mk (right_r (nv := nv) (s := s) hg.out h3'.out h4'.out h5)
    by_cases h6 : 1 < r
    · have f6 := dI_t h6
      by_cases h7 : r < 16384
      · have f7 := dI_t h7
        by_cases h8 : nv = 0
        · have f8 : ((nv : Int) == 0) = true := beq_t (by omega)
          have f8b : (nv == 0) = true := beq_iff_eq.mpr h8
          have h8' := Aside0.mk h8
          clear h8
          by_cases h9 : 32 < s
          · have f9 := dI_t h9
            have HV := Aside0.mk (show rightB g nk nv s r = decide (s ≤ mvI g) from by rw [hR.out]; apply decide_eq_decide.2; exact ⟨fun h => h.2.2.2.2, fun h => ⟨h6, h7, h8'.out, h9, h⟩⟩)
            go_enter Try.func40, Try.ntmps40
            go_wp2
            have I0 := Aside0.mk (IRow.mk0 (Below.refl _ (w.alloc (.cells #[.slice Ak nk ck, .slice Av nv cv, .int .i64 s, .int .i64 r] 38))))
            have k0 := cell_ext I0.out.cells.1
            refine wp_region_ext (by kernel_rfl) (by kernel_rfl) ?_
            repeat (go_big_quiet_step ((first | (go_at_call 29; exact Calls.ext_same (rMaxKey_any _ _)) | (go_at_call 31; exact Calls.ext_same (rMaxValue_any _ _)))))
            refine wpQuiet_nil ?_
            rintro w1 ⟨kx1, rfl⟩
            have I1 := Aside0.mk (I0.out.step kx1.bel)
            obtain ⟨c0, c1, c2, c3⟩ := I1.out.cells
            go_wp2
            have d1 := cell_ext c1
            have d2 := cell_ext c2
            have d3 := cell_ext c3
            refine wp_region_ext (by kernel_rfl) (by kernel_rfl) ?_
            repeat (go_big_quiet_step ((first | (go_at_call 29; exact Calls.ext_same (rMaxKey_any _ _)) | (go_at_call 31; exact Calls.ext_same (rMaxValue_any _ _)))))
            refine wpQuiet_nil ?_
            rintro w2 ⟨kx2, rfl⟩
            have I2 := Aside0.mk (I1.out.step kx2.bel)
            go_wp2
            go_ret
            exact ⟨ret_bool (by rw [HV.out]; first | done | rfl | (rw [Bool.eq_iff_iff]; simp)), I2.out.bel⟩
          · have f9 := dI_f h9
            have HV := Aside0.mk (show rightB g nk nv s r = false from by rw [hR.out]; exact decide_eq_false (fun h => h9 h.2.2.2.1))
            go_enter Try.func40, Try.ntmps40
            go_wp2
            have I0 := Aside0.mk (IRow.mk0 (Below.refl _ (w.alloc (.cells #[.slice Ak nk ck, .slice Av nv cv, .int .i64 s, .int .i64 r] 38))))
            have k0 := cell_ext I0.out.cells.1
            refine wp_region_ext (by kernel_rfl) (by kernel_rfl) ?_
            repeat (go_big_quiet_step ((first | (go_at_call 29; exact Calls.ext_same (rMaxKey_any _ _)) | (go_at_call 31; exact Calls.ext_same (rMaxValue_any _ _)))))
            refine wpQuiet_nil ?_
            rintro w1 ⟨kx1, rfl⟩
            have I1 := Aside0.mk (I0.out.step kx1.bel)
            obtain ⟨c0, c1, c2, c3⟩ := I1.out.cells
            go_wp2
            have d1 := cell_ext c1
            have d2 := cell_ext c2
            have d3 := cell_ext c3
            refine wp_region_ext (by kernel_rfl) (by kernel_rfl) ?_
            repeat (go_big_quiet_step ((first | (go_at_call 29; exact Calls.ext_same (rMaxKey_any _ _)) | (go_at_call 31; exact Calls.ext_same (rMaxValue_any _ _)))))
            refine wpQuiet_nil ?_
            rintro w2 ⟨kx2, rfl⟩
            have I2 := Aside0.mk (I1.out.step kx2.bel)
            go_wp2
            go_ret
            exact ⟨ret_bool (by rw [HV.out]; first | done | rfl | (rw [Bool.eq_iff_iff]; simp)), I2.out.bel⟩
        · have f8 : ((nv : Int) == 0) = false := beq_f (by omega)
          have f8b : (nv == 0) = false := beq_eq_false_iff_ne.mpr h8
          have HV := Aside0.mk (show rightB g nk nv s r = false from by rw [hR.out]; exact decide_eq_false (fun h => h8 h.2.2.1))
          go_enter Try.func40, Try.ntmps40
          go_wp2
          have I0 := Aside0.mk (IRow.mk0 (Below.refl _ (w.alloc (.cells #[.slice Ak nk ck, .slice Av nv cv, .int .i64 s, .int .i64 r] 38))))
          have k0 := cell_ext I0.out.cells.1
          refine wp_region_ext (by kernel_rfl) (by kernel_rfl) ?_
          repeat (go_big_quiet_step ((first | (go_at_call 29; exact Calls.ext_same (rMaxKey_any _ _)) | (go_at_call 31; exact Calls.ext_same (rMaxValue_any _ _)))))
          refine wpQuiet_nil ?_
          rintro w1 ⟨kx1, rfl⟩
          have I1 := Aside0.mk (I0.out.step kx1.bel)
          obtain ⟨c0, c1, c2, c3⟩ := I1.out.cells
          go_wp2
          have d1 := cell_ext c1
          have d2 := cell_ext c2
          have d3 := cell_ext c3
          refine wp_region_ext (by kernel_rfl) (by kernel_rfl) ?_
          repeat (go_big_quiet_step ((first | (go_at_call 29; exact Calls.ext_same (rMaxKey_any _ _)) | (go_at_call 31; exact Calls.ext_same (rMaxValue_any _ _)))))
          refine wpQuiet_nil ?_
          rintro w2 ⟨kx2, rfl⟩
          have I2 := Aside0.mk (I1.out.step kx2.bel)
          go_wp2
          go_ret
          exact ⟨ret_bool (by rw [HV.out]; first | done | rfl | (rw [Bool.eq_iff_iff]; simp)), I2.out.bel⟩
      · have f7 := dI_f h7
        have HV := Aside0.mk (show rightB g nk nv s r = false from by rw [hR.out]; exact decide_eq_false (fun h => h7 h.2.1))
        go_enter Try.func40, Try.ntmps40
        go_wp2
        have I0 := Aside0.mk (IRow.mk0 (Below.refl _ (w.alloc (.cells #[.slice Ak nk ck, .slice Av nv cv, .int .i64 s, .int .i64 r] 38))))
        have k0 := cell_ext I0.out.cells.1
        refine wp_region_ext (by kernel_rfl) (by kernel_rfl) ?_
        repeat (go_big_quiet_step ((first | (go_at_call 29; exact Calls.ext_same (rMaxKey_any _ _)) | (go_at_call 31; exact Calls.ext_same (rMaxValue_any _ _)))))
        refine wpQuiet_nil ?_
        rintro w1 ⟨kx1, rfl⟩
        have I1 := Aside0.mk (I0.out.step kx1.bel)
        obtain ⟨c0, c1, c2, c3⟩ := I1.out.cells
        go_wp2
        have d1 := cell_ext c1
        have d2 := cell_ext c2
        have d3 := cell_ext c3
        refine wp_region_ext (by kernel_rfl) (by kernel_rfl) ?_
        repeat (go_big_quiet_step ((first | (go_at_call 29; exact Calls.ext_same (rMaxKey_any _ _)) | (go_at_call 31; exact Calls.ext_same (rMaxValue_any _ _)))))
        refine wpQuiet_nil ?_
        rintro w2 ⟨kx2, rfl⟩
        have I2 := Aside0.mk (I1.out.step kx2.bel)
        go_wp2
        go_ret
        exact ⟨ret_bool (by rw [HV.out]; first | done | rfl | (rw [Bool.eq_iff_iff]; simp)), I2.out.bel⟩
    · have f6 := dI_f h6
      have HV := Aside0.mk (show rightB g nk nv s r = false from by rw [hR.out]; exact decide_eq_false (fun h => h6 h.1))
      go_enter Try.func40, Try.ntmps40
      go_wp2
      have I0 := Aside0.mk (IRow.mk0 (Below.refl _ (w.alloc (.cells #[.slice Ak nk ck, .slice Av nv cv, .int .i64 s, .int .i64 r] 38))))
      have k0 := cell_ext I0.out.cells.1
      refine wp_region_ext (by kernel_rfl) (by kernel_rfl) ?_
      repeat (go_big_quiet_step ((first | (go_at_call 29; exact Calls.ext_same (rMaxKey_any _ _)) | (go_at_call 31; exact Calls.ext_same (rMaxValue_any _ _)))))
      refine wpQuiet_nil ?_
      rintro w1 ⟨kx1, rfl⟩
      have I1 := Aside0.mk (I0.out.step kx1.bel)
      obtain ⟨c0, c1, c2, c3⟩ := I1.out.cells
      go_wp2
      have d1 := cell_ext c1
      have d2 := cell_ext c2
      have d3 := cell_ext c3
      refine wp_region_ext (by kernel_rfl) (by kernel_rfl) ?_
      repeat (go_big_quiet_step ((first | (go_at_call 29; exact Calls.ext_same (rMaxKey_any _ _)) | (go_at_call 31; exact Calls.ext_same (rMaxValue_any _ _)))))
      refine wpQuiet_nil ?_
      rintro w2 ⟨kx2, rfl⟩
      have I2 := Aside0.mk (I1.out.step kx2.bel)
      go_wp2
      go_ret
      exact ⟨ret_bool (by rw [HV.out]; first | done | rfl | (rw [Bool.eq_iff_iff]; simp)), I2.out.bel⟩

end Go.Proofs.Ytaoaenjhclicfaa
