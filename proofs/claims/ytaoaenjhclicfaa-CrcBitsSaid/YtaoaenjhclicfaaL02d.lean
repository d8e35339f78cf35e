/- The walk of the law CrcBits. -/
import Derived.Test.YtaoaenjhclicfaaP2
import Derived.Test.YtaoaenjhclicfaaL02b
set_option linter.unusedVariables false
set_option linter.unusedSimpArgs false
namespace Go.Proofs.Ytaoaenjhclicfaa
open Go.RowKit

theorem flip_val (S : List UInt8) (q r : Nat) (hr : r < 8) : bits .xor .u8 (b8 S q) ((2 : Int) ^ r % 256) = (((S.getD q 0 ^^^ UInt8.ofNat (2 ^ r)).toNat : Nat) : Int) := by
  have hp : (UInt8.ofNat (2 ^ r)).toNat = 2 ^ r := by
    rw [UInt8.toNat_ofNat']
    exact Nat.mod_eq_of_lt (Nat.pow_lt_pow_right (by omega) hr)
  have e : (2 : Int) ^ r % 256 = ((2 ^ r : Nat) : Int) := by
    rcases (show r = 0 ∨ r = 1 ∨ r = 2 ∨ r = 3 ∨ r = 4 ∨ r = 5 ∨ r = 6 ∨ r = 7 by omega) with rfl | rfl | rfl | rfl | rfl | rfl | rfl | rfl <;> rfl
  rw [e]
  unfold b8
  rw [u8_xor_nat _ _ (UInt8.toNat_lt _) (by rw [← hp]; exact UInt8.toNat_lt _), UInt8.toNat_xor, hp]
theorem shl_one (r : Nat) (hr : r < 8) : Op.shift .shl .u8 1 .i64 (r : Int) = pure (.int .u8 ((2 ^ r : Nat) : Int)) := by
  rw [shift_shl_u8 (h₀ := by omega) (h₁ := by omega)]
  congr 2
  rcases (show r = 0 ∨ r = 1 ∨ r = 2 ∨ r = 3 ∨ r = 4 ∨ r = 5 ∨ r = 6 ∨ r = 7 by omega) with rfl | rfl | rfl | rfl | rfl | rfl | rfl | rfl <;> rfl

set_option maxHeartbeats 4000000 in
set_option maxRecDepth 100000 in
theorem crcBits_walk (A : Option Addr) (n c : Nat) (xs : List UInt8) (a b : Int) (w : World) (hb : Bs w A n c xs) (ha : -9223372036854775808 ≤ a ∧ a ≤ 9223372036854775807) (hbt : -9223372036854775808 ≤ b ∧ b ≤ 9223372036854775807) :
    Calls Try.prog 5 #[.slice A n c, .int .i64 a, .int .i64 b] w fun e w' => e = .returned (.bool true) ∧ Below w.heap.size w w' := by
  have hlim := hb.lim
  obtain ⟨ha0, ha1⟩ := ha
  obtain ⟨hb0, hb1⟩ := hbt
  by_cases hn : 600 < n
  · have hn' : (600 : Int) < (n : Int) := by omega
    go_enter Try.func5, Try.ntmps5
    go_wp2_with (go_at_call 15; refine (alive02_any _).mono ?_; rintro e w1 ⟨rfl, hB⟩)
    go_ret
    exact ⟨rfl, hB⟩
  have hn' : ¬ (600 : Int) < (n : Int) := by omega
  by_cases h1 : a < 0
  · go_enter Try.func5, Try.ntmps5
    go_wp2_with (go_at_call 15; refine (alive02_any _).mono ?_; rintro e w1 ⟨rfl, hB⟩)
    go_ret
    exact ⟨rfl, hB⟩
  by_cases h2 : (n : Int) - 4 < a
  · go_enter Try.func5, Try.ntmps5
    go_wp2_with (go_at_call 15; refine (alive02_any _).mono ?_; rintro e w1 ⟨rfl, hB⟩)
    go_ret
    exact ⟨rfl, hB⟩
  by_cases h3 : b < 0
  · go_enter Try.func5, Try.ntmps5
    go_wp2_with (go_at_call 15; refine (alive02_any _).mono ?_; rintro e w1 ⟨rfl, hB⟩)
    go_ret
    exact ⟨rfl, hB⟩
  by_cases h4 : 8 * (n : Int) ≤ b
  · go_enter Try.func5, Try.ntmps5
    go_wp2_with (go_at_call 15; refine (alive02_any _).mono ?_; rintro e w1 ⟨rfl, hB⟩)
    go_ret
    exact ⟨rfl, hB⟩
  obtain ⟨a, rfl⟩ := Int.eq_ofNat_of_zero_le (show 0 ≤ a by omega)
  obtain ⟨b, rfl⟩ := Int.eq_ofNat_of_zero_le (show 0 ≤ b by omega)
  have hd : decide (0 ≤ (a : Int) ∧ (a : Int) ≤ (n : Int) - 4) = true := decide_eq_true (by omega)
  have hS1 : sealB (sealB xs a) a = sealB xs a := sealB_again xs a
  have hSl : (sealB xs (a : Int)).length = n := by rw [sealB_length]; exact hb.len
  have f1 := bit_one (sealB xs a) a b (by omega) (by omega) hS1
  have f2 := fun (h : b + 1 < 8 * n) => bit_two (sealB xs a) a b (by omega) (by rw [hSl]; exact h) (by omega) hS1
  have F1 := Aside0.mk f1
  have F2 := Aside0.mk f2
  have HSl := Aside0.mk hSl
  clear f1 f2 hSl hS1
  go_enter Try.func5, Try.ntmps5
  go_wp2_with (first | (go_at_call 19; refine (seal_any A n c xs a _ hb).mono ?_; rintro e w2 ⟨A2, c2, rfl, hO2, hB2⟩; (have HO := Aside0.mk hO2); clear hO2) | (at_builtin; refine wpl_a8 (w0 := w2) w2.heap.size rfl (.tmp 44) (.tmp 45) rfl _ 0 0 [] A2 n c2 (sealB xs a) n (sealB xs a) rfl rfl (Ow.lit0 w2 w2.heap.size w2.heap.size rfl (Nat.le_refl _)) (HO.out.bs.alloc _) ((Below.refl _ _).alloc (Nat.le_refl _) _) (by simp) (by omega) (by omega) rfl ?_; intro A3 c3 w3 hO3 hB3))
  obtain ⟨g, rfl, hg1, hg2, hf⟩ := hO3.out.head (by omega)
  obtain ⟨adx, hadx, cx⟩ := hO3.out.bs.atN (b / 8) (by omega)
  injection hadx with hadx
  subst hadx
  rw [add_plain] at cx
  have hfj := hf (b / 8)
  clear hf
  have H3 := Aside0.mk (And.intro HO.out hB2)
  have hB23 := Aside0.mk (below_then H3.out.2 H3.out.2.size hB3.out)
  clear HO hB2 hB3 hb
  generalize sealB xs (a : Int) = S at *
  generalize hgb : w2.heap.size = B2 at *
  have hq0 : (b : Int).tdiv 8 = ((b / 8 : Nat) : Int) := by rw [Int.tdiv_eq_ediv_of_nonneg (by omega)]; omega
  have hr0 : (b : Int).tmod 8 = ((b % 8 : Nat) : Int) := by rw [Int.tmod_eq_emod_of_nonneg (by omega)]; omega
  have hq1 : (b : Int) / 8 = ((b / 8 : Nat) : Int) := by omega
  have hr1 : (b : Int) % 8 = ((b % 8 : Nat) : Int) := by omega
  have hqn : ((b / 8 : Nat) : Int) < (n : Int) := by omega
  have hq : b / 8 < n := by omega
  have hr : b % 8 < 8 := by omega
  generalize hqq : b / 8 = q at *
  generalize hrr : b % 8 = r at *
  have hsh := shl_one r hr
  have hSq : S.set q (S.getD q 0 ^^^ UInt8.ofNat (2 ^ r)) = flipB S b := by unfold flipB; rw [hqq, hrr]
  have HV := Aside0.mk hSq
  clear hSq
  have hwg := Aside0.mk (show w.heap.size ≤ g by have := H3.out.2.size; omega)
  go_region
  have hbv := flip_val S q r hr
  have H4 := Aside0.mk (hO3.out.store q (S.getD q 0 ^^^ UInt8.ofNat (2 ^ r))).drew
  rw [HV.out, ← hbv] at H4
  have HB4 := Aside0.mk (below_drew (hB23.out.setCell (p := ⟨g, q, none⟩) hwg.out (.int .u8 (bits .xor .u8 (b8 S q) ((2 : Int) ^ r % 256)))))
  generalize (w3.setCell ⟨g, q, none⟩ (.int .u8 (bits .xor .u8 (b8 S q) ((2 : Int) ^ r % 256)))).drew = W4 at H4 HB4 ⊢
  clear hO3 hB23 cx hfj hg2 hsh hbv hq0 hr0 hq1 hr1 hqn H3 HV
  by_cases hnx : 8 * (n : Int) ≤ (b : Int) + 1
  · go_wp2_with (first | (go_at_call 20; (with_reducible refine (sealed_any (some ⟨g, 0, none⟩) n c3 (flipB S b) a _ H4.out.bs).mono ?_); rintro e w6 ⟨rfl, hB⟩; rw [hd, F1.out]; (have HB6 := Aside0.mk (below_then HB4.out HB4.out.size hB)); clear hB) | (go_at_call 15; refine (alive02_any _).mono ?_; rintro e w7 ⟨rfl, hB⟩; (have HB7 := Aside0.mk (below_then HB6.out HB6.out.size hB)); clear hB))
    go_ret
    exact ⟨rfl, HB7.out⟩
  · have F3 := Aside0.mk (F2.out (by omega))
    clear F2
    go_wp2_with (first | (go_at_call 20; (with_reducible refine (sealed_any (some ⟨g, 0, none⟩) n c3 (flipB S b) a _ H4.out.bs).mono ?_); rintro e w6 ⟨rfl, hB⟩; rw [hd, F1.out]; (have HB6 := Aside0.mk (below_then HB4.out HB4.out.size hB)); (have HO6 := Aside0.mk (H4.out.below hB)); clear hB))
    obtain ⟨_, hg, hg3, hg4, hf⟩ := HO6.out.head (by omega)
    injection hg with hg
    injection hg with hg
    subst hg
    obtain ⟨adx, hadx, cx⟩ := HO6.out.bs.atN ((b + 1) / 8) (by omega)
    injection hadx with hadx
    subst hadx
    rw [add_plain] at cx
    have hfj := hf ((b + 1) / 8)
    clear hf
    have hq0 : ((b : Int) + 1).tdiv 8 = (((b + 1) / 8 : Nat) : Int) := by rw [Int.tdiv_eq_ediv_of_nonneg (by omega)]; omega
    have hr0 : ((b : Int) + 1).tmod 8 = (((b + 1) % 8 : Nat) : Int) := by rw [Int.tmod_eq_emod_of_nonneg (by omega)]; omega
    have hq1 : ((b : Int) + 1) / 8 = (((b + 1) / 8 : Nat) : Int) := by omega
    have hr1 : ((b : Int) + 1) % 8 = (((b + 1) % 8 : Nat) : Int) := by omega
    have hqn : (((b + 1) / 8 : Nat) : Int) < (n : Int) := by omega
    have hq' : (b + 1) / 8 < n := by omega
    have hr' : (b + 1) % 8 < 8 := by omega
    generalize hqq' : (b + 1) / 8 = q' at *
    generalize hrr' : (b + 1) % 8 = r' at *
    have hsh := shl_one r' hr'
    have hSq : (flipB S b).set q' ((flipB S b).getD q' 0 ^^^ UInt8.ofNat (2 ^ r')) = flipB (flipB S b) (b + 1) := by rw [flipB.eq_def (flipB S b) (b + 1), hqq', hrr']
    have HV := Aside0.mk hSq
    clear hSq
    go_region
    have hbv := flip_val (flipB S b) q' r' hr'
    have H7 := Aside0.mk (HO6.out.store q' ((flipB S b).getD q' 0 ^^^ UInt8.ofNat (2 ^ r'))).drew
    rw [HV.out, ← hbv] at H7
    have HB7 := Aside0.mk (below_drew (HB6.out.setCell (p := ⟨g, q', none⟩) hwg.out (.int .u8 (bits .xor .u8 (b8 (flipB S b) q') ((2 : Int) ^ r' % 256)))))
    generalize (w6.setCell ⟨g, q', none⟩ (.int .u8 (bits .xor .u8 (b8 (flipB S b) q') ((2 : Int) ^ r' % 256)))).drew = W7 at H7 HB7 ⊢
    go_wp2_with (first | (go_at_call 15; refine (alive02_any _).mono ?_; rintro e w8 ⟨rfl, hB⟩; (have HB8 := Aside0.mk (below_then HB7.out HB7.out.size hB)); (have HO8 := Aside0.mk (H7.out.below hB)); clear hB) | (go_at_call 20; (with_reducible refine (sealed_any (some ⟨g, 0, none⟩) n c3 (flipB (flipB S b) (b + 1)) a _ HO8.out.bs).mono ?_); rintro e w9 ⟨rfl, hB⟩; rw [hd, F3.out]; (have HB9 := Aside0.mk (below_then HB8.out HB8.out.size hB)); clear hB))
    go_ret
    exact ⟨rfl, HB9.out⟩
end Go.Proofs.Ytaoaenjhclicfaa
