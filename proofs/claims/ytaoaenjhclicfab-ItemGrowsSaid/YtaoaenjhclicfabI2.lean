/- The walks of item's small functions, over what a generation has. -/
import Derived.Test.YtaoaenjhclicfabI1
set_option linter.unusedVariables false
set_option linter.unusedSimpArgs false
namespace Go.Proofs.Ytaoaenjhclicfab
open Go.RowKit

theorem itf (W : World) (a b c d : Int) : (Instr.field 185 (.agg #[.int .i64 a, .int .i64 b, .int .i64 c, .int .i64 d]) 0).run Try.prog W = .ok (.int .i64 a) W ∧
    (Instr.field 185 (.agg #[.int .i64 a, .int .i64 b, .int .i64 c, .int .i64 d]) 1).run Try.prog W = .ok (.int .i64 b) W ∧
    (Instr.field 185 (.agg #[.int .i64 a, .int .i64 b, .int .i64 c, .int .i64 d]) 2).run Try.prog W = .ok (.int .i64 c) W ∧
    (Instr.field 185 (.agg #[.int .i64 a, .int .i64 b, .int .i64 c, .int .i64 d]) 3).run Try.prog W = .ok (.int .i64 d) W := ⟨by kernel_rfl, by kernel_rfl, by kernel_rfl, by kernel_rfl⟩

set_option maxHeartbeats 1000000 in
set_option maxRecDepth 100000 in
theorem maxKey_any (g : Int) (w : World) : Calls Try.prog 88 #[.int .i64 g] w fun e w' => e = .returned (.int .i64 (mkI g)) ∧ Below w.heap.size w w' := by
  have hf := fun W a b c d => itf W a b c d
  go_enter Try.func88, Try.ntmps88
  go_wp2_with (go_at_call 135; refine (itof_any _ _).mono ?_; rintro e w1 ⟨rfl, hB⟩)
  go_ret
  exact ⟨rfl, hB⟩
set_option maxHeartbeats 1000000 in
set_option maxRecDepth 100000 in
theorem maxValue_any (g : Int) (w : World) : Calls Try.prog 89 #[.int .i64 g] w fun e w' => e = .returned (.int .i64 (mvI g)) ∧ Below w.heap.size w w' := by
  have hf := fun W a b c d => itf W a b c d
  go_enter Try.func89, Try.ntmps89
  go_wp2_with (go_at_call 135; refine (itof_any _ _).mono ?_; rintro e w1 ⟨rfl, hB⟩)
  go_ret
  exact ⟨rfl, hB⟩
set_option maxHeartbeats 1000000 in
set_option maxRecDepth 100000 in
theorem idWidth_any (g : Int) (w : World) : Calls Try.prog 90 #[.int .i64 g] w fun e w' => e = .returned (.int .i64 (iwI g)) ∧ Below w.heap.size w w' := by
  have hf := fun W a b c d => itf W a b c d
  go_enter Try.func90, Try.ntmps90
  go_wp2_with (go_at_call 135; refine (itof_any _ _).mono ?_; rintro e w1 ⟨rfl, hB⟩)
  go_ret
  exact ⟨rfl, hB⟩
set_option maxHeartbeats 1000000 in
set_option maxRecDepth 100000 in
theorem head_any (g : Int) (w : World) : Calls Try.prog 91 #[.int .i64 g] w fun e w' => e = .returned (.int .i64 (hdI g)) ∧ Below w.heap.size w w' := by
  have hf := fun W a b c d => itf W a b c d
  go_enter Try.func91, Try.ntmps91
  go_wp2_with (go_at_call 135; refine (itof_any _ _).mono ?_; rintro e w1 ⟨rfl, hB⟩)
  go_ret
  exact ⟨rfl, hB⟩
theorem gen3_range (g a b c : Int) (ha : 0 ≤ a ∧ a ≤ 2000) (hb : 0 ≤ b ∧ b ≤ 2000) (hc : 0 ≤ c ∧ c ≤ 2000) : 0 ≤ gen3 g a b c ∧ gen3 g a b c ≤ 2000 := by
  unfold gen3
  split
  · exact ha
  · split
    · exact hb
    · split
      · exact hc
      · omega
theorem mk_range (g : Int) : 0 ≤ mkI g ∧ mkI g ≤ 2000 := gen3_range g _ _ _ (by omega) (by omega) (by omega)
theorem mv_range (g : Int) : 0 ≤ mvI g ∧ mvI g ≤ 2000 := gen3_range g _ _ _ (by omega) (by omega) (by omega)
theorem iw_range (g : Int) : 0 ≤ iwI g ∧ iwI g ≤ 2000 := gen3_range g _ _ _ (by omega) (by omega) (by omega)
theorem hd_range (g : Int) : 0 ≤ hdI g ∧ hdI g ≤ 2000 := gen3_range g _ _ _ (by omega) (by omega) (by omega)
theorem cp_hd (g : Int) (h : genB g = true) : 256 - hdI g = cpI g := by
  unfold genB at h
  have h := of_decide_eq_true h
  have : g = 1 ∨ g = 2 ∨ g = 3 := by omega
  rcases this with rfl | rfl | rfl <;> rfl
theorem cp_none (g : Int) (h : genB g = false) : cpI g = 0 := by
  unfold genB at h
  exact gen3_none (of_decide_eq_false h)

set_option maxHeartbeats 1000000 in
theorem cap_any (g : Int) (w : World) : Calls Try.prog 84 #[.int .i64 g] w fun e w' => e = .returned (.int .i64 (cpI g)) ∧ Below w.heap.size w w' := by
  obtain ⟨r0, r1⟩ := hd_range g
  cases hg : genB g with
  | true =>
    have hc := Aside0.mk (cp_hd g hg)
    go_enter Try.func84, Try.ntmps84
    go_wp2_with (first | (go_at_call 87; refine (gen_any _ _).mono ?_; rintro e w1 ⟨rfl, rfl⟩; rw [hg]) | (go_at_call 91; refine (head_any _ _).mono ?_; rintro e w1 ⟨rfl, hB⟩))
    go_ret
    exact ⟨ret_int hc.out, hB⟩
  | false =>
    have hc := Aside0.mk (cp_none g hg)
    go_enter Try.func84, Try.ntmps84
    go_wp2_with (go_at_call 87; refine (gen_any _ _).mono ?_; rintro e w1 ⟨rfl, rfl⟩; rw [hg])
    go_ret
    exact ⟨ret_int hc.out.symm, Below.refl _ _⟩

/-- Why a key and a value may not be, by their lengths. -/
def whyI (g : Int) (nk nv : Nat) : Int := if genB g = true then (if nk = 0 ∨ mkI g < (nk : Int) then 50 else if mvI g < (nv : Int) then 51 else 0) else 1

set_option maxHeartbeats 1000000 in
theorem why_any (g : Int) (Ak : Option Addr) (nk ck : Nat) (Av : Option Addr) (nv cv : Nat) (w : World) (hk : nk ≤ 140737488355328) (hv : nv ≤ 140737488355328) :
    Calls Try.prog 18 #[.int .i64 g, .slice Ak nk ck, .slice Av nv cv] w fun e w' => e = .returned (.int .i64 (whyI g nk nv)) ∧ Below w.heap.size w w' := by
  cases hg : genB g with
  | true =>
    by_cases h0 : nk = 0
    · subst h0
      have hw := Aside0.mk (show whyI g 0 nv = 50 by unfold whyI; rw [if_pos hg, if_pos (.inl rfl)])
      go_enter Try.func18, Try.ntmps18
      go_wp2_with (go_at_call 87; refine (gen_any _ _).mono ?_; rintro e w1 ⟨rfl, rfl⟩; rw [hg])
      go_ret
      exact ⟨ret_int hw.out.symm, Below.refl _ _⟩
    · have h0a : ((nk : Int) == 0) = false := beq_f (by omega)
      have h0b : (nk == 0) = false := by simpa using h0
      have h0' := Aside0.mk h0
      clear h0
      by_cases h1 : mkI g < (nk : Int)
      · have h1a : decide (mkI g < (nk : Int)) = true := decide_eq_true h1
        have hw := Aside0.mk (show whyI g nk nv = 50 by unfold whyI; rw [if_pos hg, if_pos (.inr h1)])
        clear h1
        go_enter Try.func18, Try.ntmps18
        go_wp2_with (first | (go_at_call 87; refine (gen_any _ _).mono ?_; rintro e w1 ⟨rfl, rfl⟩; rw [hg]) | (go_at_call 88; refine (maxKey_any _ _).mono ?_; rintro e w1 ⟨rfl, hB⟩))
        go_ret
        exact ⟨ret_int hw.out.symm, hB⟩
      · have h1a : decide (mkI g < (nk : Int)) = false := decide_eq_false h1
        by_cases h2 : mvI g < (nv : Int)
        · have h2a : decide (mvI g < (nv : Int)) = true := decide_eq_true h2
          have hw := Aside0.mk (show whyI g nk nv = 51 by unfold whyI; rw [if_pos hg, if_neg (by have := h0'.out; omega), if_pos h2])
          clear h1 h2
          go_enter Try.func18, Try.ntmps18
          go_wp2_with (first | (go_at_call 87; refine (gen_any _ _).mono ?_; rintro e w1 ⟨rfl, rfl⟩; rw [hg]) | (go_at_call 88; refine (maxKey_any _ _).mono ?_; rintro e w1 ⟨rfl, hB⟩; replace hB := Aside0.mk hB) | (go_at_call 89; refine (maxValue_any _ _).mono ?_; rintro e w2 ⟨rfl, hB2⟩))
          go_ret
          exact ⟨ret_int hw.out.symm, below_then hB.out hB.out.size hB2⟩
        · have h2a : decide (mvI g < (nv : Int)) = false := decide_eq_false h2
          have hw := Aside0.mk (show whyI g nk nv = 0 by unfold whyI; rw [if_pos hg, if_neg (by have := h0'.out; omega), if_neg h2])
          clear h1 h2
          go_enter Try.func18, Try.ntmps18
          go_wp2_with (first | (go_at_call 87; refine (gen_any _ _).mono ?_; rintro e w1 ⟨rfl, rfl⟩; rw [hg]) | (go_at_call 88; refine (maxKey_any _ _).mono ?_; rintro e w1 ⟨rfl, hB⟩; replace hB := Aside0.mk hB) | (go_at_call 89; refine (maxValue_any _ _).mono ?_; rintro e w2 ⟨rfl, hB2⟩))
          go_ret
          exact ⟨ret_int hw.out.symm, below_then hB.out hB.out.size hB2⟩
  | false =>
    have hw := Aside0.mk (show whyI g nk nv = 1 by unfold whyI; rw [if_neg (by simp [hg])])
    go_enter Try.func18, Try.ntmps18
    go_wp2_with (go_at_call 87; refine (gen_any _ _).mono ?_; rintro e w1 ⟨rfl, rfl⟩; rw [hg])
    go_ret
    exact ⟨ret_int hw.out.symm, Below.refl _ _⟩

end Go.Proofs.Ytaoaenjhclicfab
