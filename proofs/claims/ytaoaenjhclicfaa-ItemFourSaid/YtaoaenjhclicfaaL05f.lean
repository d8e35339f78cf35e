/- The walk of the law ItemFour. -/
import Derived.Test.YtaoaenjhclicfaaL05a
set_option linter.unusedVariables false
set_option linter.unusedSimpArgs false
namespace Go.Proofs.Ytaoaenjhclicfaa
open Go.RowKit

theorem room_lo (g : Int) (nk nv : Nat) (r : Int) : 0 ≤ roomI g nk nv r := by
  have := iw_range g
  unfold roomI
  split
  · split <;> omega
  · omega
theorem room_hi (g : Int) (nk nv : Nat) (r : Int) (h1 : nk ≤ 100) (h2 : nv ≤ 2000) : roomI g nk nv r ≤ 3000 := by
  have := iw_range g
  unfold roomI
  split
  · split <;> omega
  · omega
/-- Four of those that may be fit. -/
theorem room_cap (g : Int) (nk nv : Nat) (s r : Int) (h : rightB g nk nv s r = true) : 4 * roomI g nk nv r ≤ cpI g ∧ genB g = true := by
  unfold rightB at h
  rw [Bool.and_eq_true] at h
  obtain ⟨h1, h2⟩ := h
  obtain ⟨hw, hl⟩ := of_decide_eq_true h1
  unfold whyI at hw
  by_cases hg : genB g = true
  · refine ⟨?_, hg⟩
    rw [if_pos hg] at hw
    by_cases c1 : nk = 0 ∨ mkI g < (nk : Int)
    · rw [if_pos c1] at hw; omega
    rw [if_neg c1] at hw
    by_cases c2 : mvI g < (nv : Int)
    · rw [if_pos c2] at hw; omega
    unfold roomI
    rw [if_pos hg]
    have hg' := of_decide_eq_true hg
    have key : 16 + 4 * mkI g + 4 * iwI g ≤ cpI g ∧ 16 + 4 * mkI g + 128 ≤ cpI g := by
      have : g = 1 ∨ g = 2 ∨ g = 3 := by omega
      rcases this with rfl | rfl | rfl <;> decide
    by_cases hf : farB nv r = true
    · rw [if_pos hf]; omega
    · rw [if_neg hf]
      have : nv ≤ 32 := by
        unfold farB at hf
        simp at hf
        omega
      omega
  · rw [if_neg hg] at hw; omega
def sumTo (f : Nat → Int) : Nat → Int
  | 0 => 0
  | n + 1 => sumTo f n + f n

theorem four_ix (Ak : Nat → Option Addr) (nk ck : Nat → Nat) (Av : Nat → Option Addr) (nv cv : Nat → Nat) (s r : Nat → Int) (j : Nat) (hj : j < 4) (W : World) : (Instr.index 74 (.agg #[.slice (Ak 0) (nk 0) (ck 0), .slice (Av 0) (nv 0) (cv 0), .int .i64 (s 0), .int .i64 (r 0), .slice (Ak 1) (nk 1) (ck 1), .slice (Av 1) (nv 1) (cv 1), .int .i64 (s 1), .int .i64 (r 1), .slice (Ak 2) (nk 2) (ck 2), .slice (Av 2) (nv 2) (cv 2), .int .i64 (s 2), .int .i64 (r 2), .slice (Ak 3) (nk 3) (ck 3), .slice (Av 3) (nv 3) (cv 3), .int .i64 (s 3), .int .i64 (r 3)]) (.int .i64 (j : Int))).run Try.prog W = .ok (.agg #[.slice (Ak j) (nk j) (ck j), .slice (Av j) (nv j) (cv j), .int .i64 (s j), .int .i64 (r j)]) W := by
  rcases (show j = 0 ∨ j = 1 ∨ j = 2 ∨ j = 3 by omega) with rfl | rfl | rfl | rfl <;> kernel_rfl

set_option maxHeartbeats 4000000 in
set_option maxRecDepth 100000 in
theorem itemFour_walk (g : Int) (Ak : Nat → Option Addr) (nk ck : Nat → Nat) (Av : Nat → Option Addr) (nv cv : Nat → Nat) (s r : Nat → Int) (w : World) (hg0 : -9223372036854775808 ≤ g ∧ g ≤ 9223372036854775807) (hk : ∀ j, j < 4 → nk j ≤ 140737488355328) (hv : ∀ j, j < 4 → nv j ≤ 140737488355328) :
    Calls Try.prog 14 #[.int .i64 g, .agg #[.slice (Ak 0) (nk 0) (ck 0), .slice (Av 0) (nv 0) (cv 0), .int .i64 (s 0), .int .i64 (r 0), .slice (Ak 1) (nk 1) (ck 1), .slice (Av 1) (nv 1) (cv 1), .int .i64 (s 1), .int .i64 (r 1), .slice (Ak 2) (nk 2) (ck 2), .slice (Av 2) (nv 2) (cv 2), .int .i64 (s 2), .int .i64 (r 2), .slice (Ak 3) (nk 3) (ck 3), .slice (Av 3) (nv 3) (cv 3), .int .i64 (s 3), .int .i64 (r 3)]] w fun e w' => e = .returned (.bool true) ∧ Below w.heap.size w w' := by
  clear hg0
  have hc := Aside0.mk (show ∀ j, rightB g (nk j) (nv j) (s j) (r j) = true → 4 * roomI g (nk j) (nv j) (r j) ≤ cpI g ∧ genB g = true from fun j h => room_cap g _ _ _ _ h)
  go_enter Try.func14, Try.ntmps14
  go_wp2
  have HB0 := Aside0.mk (bel1 w (.cells #[.slice (Ak 0) (nk 0) (ck 0), .slice (Av 0) (nv 0) (cv 0), .int .i64 (s 0), .int .i64 (r 0), .slice (Ak 1) (nk 1) (ck 1), .slice (Av 1) (nv 1) (cv 1), .int .i64 (s 1), .int .i64 (r 1), .slice (Ak 2) (nk 2) (ck 2), .slice (Av 2) (nv 2) (cv 2), .int .i64 (s 2), .int .i64 (r 2), .slice (Ak 3) (nk 3) (ck 3), .slice (Av 3) (nv 3) (cv 3), .int .i64 (s 3), .int .i64 (r 3)] 74))
  have hix := Aside0.mk (fun (j : Nat) (hj : j < 4) => four_ix Ak nk ck Av nv cv s r j hj)
  generalize w.alloc (.cells #[.slice (Ak 0) (nk 0) (ck 0), .slice (Av 0) (nv 0) (cv 0), .int .i64 (s 0), .int .i64 (r 0), .slice (Ak 1) (nk 1) (ck 1), .slice (Av 1) (nv 1) (cv 1), .int .i64 (s 1), .int .i64 (r 1), .slice (Ak 2) (nk 2) (ck 2), .slice (Av 2) (nv 2) (cv 2), .int .i64 (s 2), .int .i64 (r 2), .slice (Ak 3) (nk 3) (ck 3), .slice (Av 3) (nv 3) (cv 3), .int .i64 (s 3), .int .i64 (r 3)] 74) = w0 at HB0 ⊢
  generalize Value.agg #[.slice (Ak 0) (nk 0) (ck 0), .slice (Av 0) (nv 0) (cv 0), .int .i64 (s 0), .int .i64 (r 0), .slice (Ak 1) (nk 1) (ck 1), .slice (Av 1) (nv 1) (cv 1), .int .i64 (s 1), .int .i64 (r 1), .slice (Ak 2) (nk 2) (ck 2), .slice (Av 2) (nv 2) (cv 2), .int .i64 (s 2), .int .i64 (r 2), .slice (Ak 3) (nk 3) (ck 3), .slice (Av 3) (nv 3) (cv 3), .int .i64 (s 3), .int .i64 (r 3)] = V at hix ⊢
  go_loopg [5, 9] 4 (fun k v5 v9 wr => ∃ j : Nat, Aside (k + j = 4) ∧ v5 = .int .i64 (sumTo (fun i => roomI g (nk i) (nv i) (r i)) j) ∧ v9 = .int .i64 (j : Int) ∧ Aside0 (∀ i, i < j → rightB g (nk i) (nv i) (s i) (r i) = true) ∧ Aside0 (0 ≤ sumTo (fun i => roomI g (nk i) (nv i) (r i)) j ∧ sumTo (fun i => roomI g (nk i) (nv i) (r i)) j ≤ 3000 * j) ∧ Aside0 (Below w.heap.size w wr))
  case atStart => exact ⟨0, rfl, rfl, rfl, ⟨fun i h => absurd h (by omega)⟩, ⟨by simp [sumTo]⟩, HB0⟩
  case round =>
    obtain ⟨j, hkk, rfl, rfl, hR, hS, hB⟩ := hrel
    have hj4 : j ≤ 4 := by have := hkk.out; omega
    by_cases hlt : j < 4
    · have hjn : decide ((j : Int) < 4) = true := dI_t (by omega)
      have hx := hix.out j hlt
      have hkj := hk j hlt
      have hvj := hv j hlt
      obtain ⟨s0, s1⟩ := hS.out
      have s2 : sumTo (fun i => roomI g (nk i) (nv i) (r i)) j ≤ 12000 := by omega
      cases hf : fewB (nk j) (nv j) with
      | false =>
        go_wp2_with (first | (go_at_call 38; refine (few_any _ _ _ _ _ _ _ _ _).mono ?_; rintro e w1 ⟨rfl, hB1⟩; rw [hf]; (have HI := Aside0.mk (IRow.mk0 hB1)); obtain ⟨c0, c1, c2, c3⟩ := HI.out.cells; clear hB1) | (go_at_call 26; refine (alive05_any _).mono ?_; rintro e w9 ⟨rfl, hB'⟩; (have HB9 := Aside0.mk (below_then hB.out hB.out.size (below_then HI.out.bel HI.out.bel.size hB'))); clear hB'))
        go_ret
        exact ⟨rfl, HB9.out⟩
      | true =>
      cases hr : rightB g (nk j) (nv j) (s j) (r j) with
      | false =>
        go_wp2_with (first | (go_at_call 38; refine (few_any _ _ _ _ _ _ _ _ _).mono ?_; rintro e w1 ⟨rfl, hB1⟩; rw [hf]; (have HI := Aside0.mk (IRow.mk0 hB1)); obtain ⟨c0, c1, c2, c3⟩ := HI.out.cells; clear hB1) | (go_at_call 39; refine (right_any _ _ _ _ _ _ _ _ _ _ hkj hvj).mono ?_; rintro e w2 ⟨rfl, hB2⟩; rw [hr]; (replace HI := Aside0.mk (HI.out.step hB2)); obtain ⟨d0, d1, d2, d3⟩ := HI.out.cells; clear hB2) | (go_at_call 26; refine (alive05_any _).mono ?_; rintro e w9 ⟨rfl, hB'⟩; (have HB9 := Aside0.mk (below_then hB.out hB.out.size (below_then HI.out.bel HI.out.bel.size hB'))); clear hB'))
        go_ret
        exact ⟨rfl, HB9.out⟩
      | true =>
        have h3 := room_lo g (nk j) (nv j) (r j)
        have h4 : roomI g (nk j) (nv j) (r j) ≤ 3000 := by
          have := of_decide_eq_true hf
          exact room_hi g _ _ _ this.1 this.2
        go_wp2_with (first | (go_at_call 38; refine (few_any _ _ _ _ _ _ _ _ _).mono ?_; rintro e w1 ⟨rfl, hB1⟩; rw [hf]; (have HI := Aside0.mk (IRow.mk0 hB1)); obtain ⟨c0, c1, c2, c3⟩ := HI.out.cells; clear hB1) | (go_at_call 39; refine (right_any _ _ _ _ _ _ _ _ _ _ hkj hvj).mono ?_; rintro e w2 ⟨rfl, hB2⟩; rw [hr]; (replace HI := Aside0.mk (HI.out.step hB2)); obtain ⟨d0, d1, d2, d3⟩ := HI.out.cells; clear hB2) | (go_at_call 45; refine (room_any _ _ _ _ _ _ _ _ _ _ hkj hvj).mono ?_; rintro e w3 ⟨rfl, hB3⟩; (replace HI := Aside0.mk (HI.out.step hB3)); clear hB3))
        go_roundg (4 - (j + 1))
        case measure => have := hkk.out; omega
        case rel =>
          refine ⟨j + 1, by have := hkk.out; exact (show 4 - (j + 1) + (j + 1) = 4 by omega), rfl, by go_num, ⟨fun i hi => ?_⟩, ⟨?_⟩, ⟨?_⟩⟩
          · by_cases e : i = j
            · subst e; exact hr
            · exact hR.out i (by omega)
          · show 0 ≤ sumTo (fun i => roomI g (nk i) (nv i) (r i)) j + roomI g (nk j) (nv j) (r j) ∧ sumTo (fun i => roomI g (nk i) (nv i) (r i)) j + roomI g (nk j) (nv j) (r j) ≤ 3000 * ((j + 1 : Nat) : Int)
            omega
          · exact below_then hB.out hB.out.size HI.out.bel
    · obtain rfl : j = 4 := by omega
      have hle : decide (sumTo (fun i => roomI g (nk i) (nv i) (r i)) 4 ≤ cpI g) = true := dI_t (by
        have a0 := (hc.out 0 (hR.out 0 (by omega))).1
        have a1 := (hc.out 1 (hR.out 1 (by omega))).1
        have a2 := (hc.out 2 (hR.out 2 (by omega))).1
        have a3 := (hc.out 3 (hR.out 3 (by omega))).1
        simp only [sumTo]
        omega)
      go_wp2_with (first | (go_at_call 26; refine (alive05_any _).mono ?_; rintro e w9 ⟨rfl, hB9⟩; (replace hB := Aside0.mk (below_then hB.out hB.out.size hB9)); clear hB9) | (go_at_call 36; refine (cap_any _ _).mono ?_; rintro e w8 ⟨rfl, hB8⟩; (replace hB := Aside0.mk (below_then hB.out hB.out.size hB8)); clear hB8))
      go_ret
      exact ⟨ret_bool (by first | rfl | simp), hB.out⟩
end Go.Proofs.Ytaoaenjhclicfaa
