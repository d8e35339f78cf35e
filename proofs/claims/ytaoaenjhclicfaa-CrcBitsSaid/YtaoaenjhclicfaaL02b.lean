/- The walk of the law CrcSeals. -/
import Derived.Test.YtaoaenjhclicfaaA8
import Derived.Test.YtaoaenjhclicfaaP1
set_option linter.unusedVariables false
set_option linter.unusedSimpArgs false
namespace Go.Proofs.Ytaoaenjhclicfaa
open Go.RowKit

theorem sum4_take (xs : List UInt8) (a : Nat) (s : Int) : (sum4 xs a s).take a = xs.take a := by
  unfold sum4
  rw [List.take_set_of_le (by omega), List.take_set_of_le (by omega), List.take_set_of_le (by omega), List.take_set_of_le (by omega)]
theorem sum4_drop (xs : List UInt8) (a : Nat) (s : Int) : (sum4 xs a s).drop (a + 4) = xs.drop (a + 4) := by
  unfold sum4
  rw [List.drop_set_of_lt (by omega), List.drop_set_of_lt (by omega), List.drop_set_of_lt (by omega), List.drop_set_of_lt (by omega)]
theorem sum4_again (xs : List UInt8) (a : Nat) (s : Int) : sum4 (sum4 xs a s) a s = sum4 xs a s := by
  apply List.ext_getElem?
  intro i
  simp only [sum4, List.getElem?_set, List.length_set]
  by_cases h3 : a + 3 = i
  · simp [h3]
  · by_cases h2 : a + 2 = i
    · simp [h3, h2]
    · by_cases h1 : a + 1 = i
      · simp [h3, h2, h1]
      · by_cases h0 : a = i
        · simp [h3, h2, h1, h0]
        · simp [h3, h2, h1, h0]
theorem sealB_again (xs : List UInt8) (a : Int) : sealB (sealB xs a) a = sealB xs a := by
  by_cases h : 0 ≤ a ∧ a ≤ (xs.length : Int) - 4
  · have e : sealB xs a = sum4 xs a.toNat (othI xs a.toNat) := by unfold sealB; rw [if_pos h]
    have hl := sealB_length xs a
    have e2 : sealB (sealB xs a) a = sum4 (sealB xs a) a.toNat (othI (sealB xs a) a.toNat) := by
      rw [sealB, hl, if_pos h]
    rw [e2, e]
    unfold othI
    rw [sum4_take, sum4_drop, sum4_again]
  · have e : sealB xs a = xs := by unfold sealB; rw [if_neg h]
    rw [e, e]

structure ISl (w : World) (A A1 A2 : Option Addr) (n c c1 c2 : Nat) (xs : List UInt8) (a : Int) (W : World) : Prop where
  b : Bs W A n c xs
  was : Bs W A1 n c1 xs
  s : Bs W A2 n c2 (sealB xs a)
  bel : Below w.heap.size w W
theorem ISl.step {w W W1 : World} {A A1 A2 : Option Addr} {n c c1 c2 : Nat} {xs : List UInt8} {a : Int} (h : ISl w A A1 A2 n c c1 c2 xs a W) (hB : Below W.heap.size W W1) : ISl w A A1 A2 n c c1 c2 xs a W1 :=
  ⟨h.b.below hB, h.was.below hB, h.s.below hB, below_then h.bel h.bel.size hB⟩

set_option maxHeartbeats 4000000 in
set_option maxRecDepth 100000 in
theorem crcSeals_walk (A : Option Addr) (n c : Nat) (xs : List UInt8) (a : Int) (w : World) (hb : Bs w A n c xs) (ha : -9223372036854775808 ≤ a ∧ a ≤ 9223372036854775807) :
    Calls Try.prog 7 #[.slice A n c, .int .i64 a] w fun e w' => e = .returned (.bool true) ∧ Below w.heap.size w w' := by
  have hlim := hb.lim
  obtain ⟨ha0, ha1⟩ := ha
  by_cases hn : 600 < n
  · have hn' : (600 : Int) < (n : Int) := by omega
    go_enter Try.func7, Try.ntmps7
    go_wp2_with (go_at_call 15; refine (alive02_any _).mono ?_; rintro e w1 ⟨rfl, hB⟩)
    go_ret
    exact ⟨rfl, hB⟩
  · have hn' : ¬ (600 : Int) < (n : Int) := by omega
    have HL := Aside0.mk (Ow.lit0 w w.heap.size w.heap.size rfl (Nat.le_refl _))
    have hb' := Aside0.mk hb
    have hag := Aside0.mk (sealB_again xs a)
    have hxx : (xs == xs) = true := by simp
    have hss : (sealB xs a == sealB xs a) = true := by simp
    have hcm : (xs == sealB xs a) = (sealB xs a == xs) := by rw [Bool.eq_iff_iff]; simp only [beq_iff_eq]; exact ⟨Eq.symm, Eq.symm⟩
    have hcm' := Aside0.mk hcm
    clear hcm
    by_cases hP : 0 ≤ a ∧ a ≤ (n : Int) - 4
    · have hd1 : decide (0 ≤ a) = true := decide_eq_true hP.1
      have hd2 : decide (a ≤ (n : Int) - 4) = true := decide_eq_true hP.2
      have hd : decide (0 ≤ a ∧ a ≤ (n : Int) - 4) = true := decide_eq_true hP
      clear hP
      go_enter Try.func7, Try.ntmps7
      go_wp2_with (first | (at_builtin; refine wpl_a8 (w0 := w) w.heap.size rfl (.tmp 12) (.tmp 13) rfl _ 0 0 [] A n c xs n xs rfl rfl HL.out (hb'.out.alloc _) ((Below.refl _ _).alloc (Nat.le_refl _) _) (by simp) (by omega) (by omega) rfl ?_; clear HL hb; intro A1 c1 w1 hO1 hB1) | (go_at_call 19; refine (seal_any A n c xs a _ (hb'.out.below hB1.out)).mono ?_; rintro e w2 ⟨A2, c2, rfl, hO2, hB2⟩; (have HI : ISl w A A1 A2 n c c1 c2 xs a w2 := ⟨(hb'.out.below hB1.out).below hB2, hO1.out.bs.below hB2, hO2.bs, below_then hB1.out hB1.out.size hB2⟩); clear hO2 hB2 hO1 hB1) | (go_at_call 15; refine (alive02_any _).mono ?_; rintro e w3 ⟨rfl, hB⟩; replace HI := HI.step hB; clear hB) | (go_at_call 22; refine (rseal_any A n c xs a _ HI.b (by omega)).mono ?_; rintro e w4 ⟨A4, c4, rfl, hO4, hB⟩; rw [rsealB_eq] at hO4; replace HI := HI.step hB; clear hB; (have HO4 := Aside0.mk hO4.bs); clear hO4) | (go_at_call 21; first | ((with_reducible refine (equal8_any A2 n c2 _ A4 n c4 _ _ HI.s HO4.out).mono ?_); rintro e w5 ⟨rfl, rfl⟩; rw [hss]) | ((with_reducible refine (equal8_any A n c xs A1 n c1 xs _ HI.b HI.was).mono ?_); rintro e w5 ⟨rfl, rfl⟩; rw [hxx]) | ((with_reducible refine (equal8_any A n c xs A2 n c2 _ _ HI.b HI.s).mono ?_); rintro e w5 ⟨rfl, rfl⟩; rw [hcm'.out])) | (go_at_call 20; first | ((with_reducible refine (sealed_any A2 n c2 _ a _ HI.s).mono ?_); rintro e w6 ⟨rfl, hB⟩; rw [hag.out, hss, hd]; replace HI := HI.step hB; clear hB) | ((with_reducible refine (sealed_any A n c xs a _ HI.b).mono ?_); rintro e w6 ⟨rfl, hB⟩; rw [hd]; replace HI := HI.step hB; clear hB)))
      go_ret
      exact ⟨ret_bool (by simp), HI.bel⟩
    · have hd : decide (0 ≤ a ∧ a ≤ (n : Int) - 4) = false := decide_eq_false hP
      by_cases h0 : 0 ≤ a
      · have hd1 : decide (0 ≤ a) = true := decide_eq_true h0
        have hd2 : decide (a ≤ (n : Int) - 4) = false := decide_eq_false (fun h => hP ⟨h0, h⟩)
        clear hP h0
        go_enter Try.func7, Try.ntmps7
        go_wp2_with (first | (at_builtin; refine wpl_a8 (w0 := w) w.heap.size rfl (.tmp 12) (.tmp 13) rfl _ 0 0 [] A n c xs n xs rfl rfl HL.out (hb'.out.alloc _) ((Below.refl _ _).alloc (Nat.le_refl _) _) (by simp) (by omega) (by omega) rfl ?_; clear HL hb; intro A1 c1 w1 hO1 hB1) | (go_at_call 19; refine (seal_any A n c xs a _ (hb'.out.below hB1.out)).mono ?_; rintro e w2 ⟨A2, c2, rfl, hO2, hB2⟩; (have HI : ISl w A A1 A2 n c c1 c2 xs a w2 := ⟨(hb'.out.below hB1.out).below hB2, hO1.out.bs.below hB2, hO2.bs, below_then hB1.out hB1.out.size hB2⟩); clear hO2 hB2 hO1 hB1) | (go_at_call 15; refine (alive02_any _).mono ?_; rintro e w3 ⟨rfl, hB⟩; replace HI := HI.step hB; clear hB) | (go_at_call 22; refine (rseal_any A n c xs a _ HI.b (by omega)).mono ?_; rintro e w4 ⟨A4, c4, rfl, hO4, hB⟩; rw [rsealB_eq] at hO4; replace HI := HI.step hB; clear hB; (have HO4 := Aside0.mk hO4.bs); clear hO4) | (go_at_call 21; first | ((with_reducible refine (equal8_any A2 n c2 _ A4 n c4 _ _ HI.s HO4.out).mono ?_); rintro e w5 ⟨rfl, rfl⟩; rw [hss]) | ((with_reducible refine (equal8_any A n c xs A1 n c1 xs _ HI.b HI.was).mono ?_); rintro e w5 ⟨rfl, rfl⟩; rw [hxx]) | ((with_reducible refine (equal8_any A n c xs A2 n c2 _ _ HI.b HI.s).mono ?_); rintro e w5 ⟨rfl, rfl⟩; rw [hcm'.out])) | (go_at_call 20; first | ((with_reducible refine (sealed_any A2 n c2 _ a _ HI.s).mono ?_); rintro e w6 ⟨rfl, hB⟩; rw [hag.out, hss, hd]; replace HI := HI.step hB; clear hB) | ((with_reducible refine (sealed_any A n c xs a _ HI.b).mono ?_); rintro e w6 ⟨rfl, hB⟩; rw [hd]; replace HI := HI.step hB; clear hB)))
        go_ret
        exact ⟨ret_bool (by simp), HI.bel⟩
      · have hd1 : decide (0 ≤ a) = false := decide_eq_false h0
        clear hP h0
        go_enter Try.func7, Try.ntmps7
        go_wp2_with (first | (at_builtin; refine wpl_a8 (w0 := w) w.heap.size rfl (.tmp 12) (.tmp 13) rfl _ 0 0 [] A n c xs n xs rfl rfl HL.out (hb'.out.alloc _) ((Below.refl _ _).alloc (Nat.le_refl _) _) (by simp) (by omega) (by omega) rfl ?_; clear HL hb; intro A1 c1 w1 hO1 hB1) | (go_at_call 19; refine (seal_any A n c xs a _ (hb'.out.below hB1.out)).mono ?_; rintro e w2 ⟨A2, c2, rfl, hO2, hB2⟩; (have HI : ISl w A A1 A2 n c c1 c2 xs a w2 := ⟨(hb'.out.below hB1.out).below hB2, hO1.out.bs.below hB2, hO2.bs, below_then hB1.out hB1.out.size hB2⟩); clear hO2 hB2 hO1 hB1) | (go_at_call 15; refine (alive02_any _).mono ?_; rintro e w3 ⟨rfl, hB⟩; replace HI := HI.step hB; clear hB) | (go_at_call 22; refine (rseal_any A n c xs a _ HI.b (by omega)).mono ?_; rintro e w4 ⟨A4, c4, rfl, hO4, hB⟩; rw [rsealB_eq] at hO4; replace HI := HI.step hB; clear hB; (have HO4 := Aside0.mk hO4.bs); clear hO4) | (go_at_call 21; first | ((with_reducible refine (equal8_any A2 n c2 _ A4 n c4 _ _ HI.s HO4.out).mono ?_); rintro e w5 ⟨rfl, rfl⟩; rw [hss]) | ((with_reducible refine (equal8_any A n c xs A1 n c1 xs _ HI.b HI.was).mono ?_); rintro e w5 ⟨rfl, rfl⟩; rw [hxx]) | ((with_reducible refine (equal8_any A n c xs A2 n c2 _ _ HI.b HI.s).mono ?_); rintro e w5 ⟨rfl, rfl⟩; rw [hcm'.out])) | (go_at_call 20; first | ((with_reducible refine (sealed_any A2 n c2 _ a _ HI.s).mono ?_); rintro e w6 ⟨rfl, hB⟩; rw [hag.out, hss, hd]; replace HI := HI.step hB; clear hB) | ((with_reducible refine (sealed_any A n c xs a _ HI.b).mono ?_); rintro e w6 ⟨rfl, hB⟩; rw [hd]; replace HI := HI.step hB; clear hB)))
        go_ret
        exact ⟨ret_bool (by simp), HI.bel⟩

end Go.Proofs.Ytaoaenjhclicfaa
