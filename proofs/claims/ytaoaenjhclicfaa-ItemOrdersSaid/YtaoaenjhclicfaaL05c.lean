/- The walk of the law ItemOrders. -/
import Derived.Test.YtaoaenjhclicfaaL05a
set_option linter.unusedVariables false
set_option linter.unusedSimpArgs false
namespace Go.Proofs.Ytaoaenjhclicfaa
open Go.RowKit

set_option maxHeartbeats 4000000 in
set_option maxRecDepth 100000 in
theorem itemOrders_walk (Aa : Option Addr) (na ca : Nat) (xa : List UInt8) (Ab : Option Addr) (nb cb : Nat) (xb : List UInt8) (Ac : Option Addr) (nc cc : Nat) (xc : List UInt8) (w : World) (ha : Bs w Aa na ca xa) (hb : Bs w Ab nb cb xb) (hc : Bs w Ac nc cc xc) :
    Calls Try.prog 11 #[.slice Aa na ca, .slice Ab nb cb, .slice Ac nc cc] w fun e w' => e = .returned (.bool true) ∧ Below w.heap.size w w' := by
  have HX := Aside0.mk (And.intro ha (And.intro hb hc))
  have l1 := ha.lim
  have l2 := hb.lim
  have l3 := hc.lim
  clear ha hb hc
  by_cases h1 : 100 < na
  · have f1 : decide ((100 : Int) < (na : Int)) = true := dI_t (by omega)
    go_enter Try.func11, Try.ntmps11
    go_wp2_with (go_at_call 26; refine (alive05_any _).mono ?_; rintro e w1 ⟨rfl, hB⟩; (have HB := Aside0.mk hB); clear hB)
    go_ret
    exact ⟨rfl, HB.out⟩
  have f1 : decide ((100 : Int) < (na : Int)) = false := dI_f (by omega)
  by_cases h2 : 100 < nb
  · have f2 : decide ((100 : Int) < (nb : Int)) = true := dI_t (by omega)
    go_enter Try.func11, Try.ntmps11
    go_wp2_with (go_at_call 26; refine (alive05_any _).mono ?_; rintro e w1 ⟨rfl, hB⟩; (have HB := Aside0.mk hB); clear hB)
    go_ret
    exact ⟨rfl, HB.out⟩
  have f2 : decide ((100 : Int) < (nb : Int)) = false := dI_f (by omega)
  by_cases h3 : 100 < nc
  · have f3 : decide ((100 : Int) < (nc : Int)) = true := dI_t (by omega)
    go_enter Try.func11, Try.ntmps11
    go_wp2_with (go_at_call 26; refine (alive05_any _).mono ?_; rintro e w1 ⟨rfl, hB⟩; (have HB := Aside0.mk hB); clear hB)
    go_ret
    exact ⟨rfl, HB.out⟩
  have f3 : decide ((100 : Int) < (nc : Int)) = false := dI_f (by omega)
  have ho := Aside0.mk (cmp_opp xa xb)
  have hr := Aside0.mk (fun h k => cmp_row xa xb xc h k)
  obtain ⟨k0, k1⟩ : -1 ≤ Lib.compareBytes xa xb ∧ Lib.compareBytes xa xb ≤ 1 := by rcases cmp_three xa xb with h | h | h <;> omega
  by_cases p1 : 0 < Lib.compareBytes xa xb
  · have q1 := dI_t p1
    go_enter Try.func11, Try.ntmps11
    go_wp2_with (first | (go_at_call 26; refine (alive05_any _).mono ?_; rintro e w1 ⟨rfl, hB⟩; (have HB := Aside0.mk hB); clear hB) | (go_at_call 50; first | ((with_reducible refine (icompare_any Aa na ca xa Ab nb cb xb _ HX.out.1 HX.out.2.1).mono ?_); rintro e w2 ⟨rfl, rfl⟩) | ((with_reducible refine (icompare_any Aa na ca xa Ab nb cb xb _ (HX.out.1.below HB.out) (HX.out.2.1.below HB.out)).mono ?_); rintro e w2 ⟨rfl, rfl⟩) | ((with_reducible refine (icompare_any Ab nb cb xb Aa na ca xa _ HX.out.2.1 HX.out.1).mono ?_); rintro e w2 ⟨rfl, rfl⟩; rw [ho.out]) | ((with_reducible refine (icompare_any Ab nb cb xb Aa na ca xa _ (HX.out.2.1.below HB.out) (HX.out.1.below HB.out)).mono ?_); rintro e w2 ⟨rfl, rfl⟩; rw [ho.out]) | ((with_reducible refine (icompare_any Ab nb cb xb Ac nc cc xc _ HX.out.2.1 HX.out.2.2).mono ?_); rintro e w2 ⟨rfl, rfl⟩) | ((with_reducible refine (icompare_any Ab nb cb xb Ac nc cc xc _ (HX.out.2.1.below HB.out) (HX.out.2.2.below HB.out)).mono ?_); rintro e w2 ⟨rfl, rfl⟩) | ((with_reducible refine (icompare_any Aa na ca xa Ac nc cc xc _ HX.out.1 HX.out.2.2).mono ?_); rintro e w2 ⟨rfl, rfl⟩) | ((with_reducible refine (icompare_any Aa na ca xa Ac nc cc xc _ (HX.out.1.below HB.out) (HX.out.2.2.below HB.out)).mono ?_); rintro e w2 ⟨rfl, rfl⟩)) | (go_at_call 51; refine (rcompare_any Aa na ca xa Ab nb cb xb _ (HX.out.1.below HB.out) (HX.out.2.1.below HB.out)).mono ?_; rintro e w3 ⟨rfl, m3, hm3⟩; (replace HB := Aside0.mk (below_then HB.out HB.out.size (below_eq hm3))); clear hm3))
    go_ret
    exact ⟨ret_bool (by first | rfl | simp), HB.out⟩
  have q1 := dI_f p1
  by_cases p2 : 0 < Lib.compareBytes xb xc
  · have q2 := dI_t p2
    go_enter Try.func11, Try.ntmps11
    go_wp2_with (first | (go_at_call 26; refine (alive05_any _).mono ?_; rintro e w1 ⟨rfl, hB⟩; (have HB := Aside0.mk hB); clear hB) | (go_at_call 50; first | ((with_reducible refine (icompare_any Aa na ca xa Ab nb cb xb _ HX.out.1 HX.out.2.1).mono ?_); rintro e w2 ⟨rfl, rfl⟩) | ((with_reducible refine (icompare_any Aa na ca xa Ab nb cb xb _ (HX.out.1.below HB.out) (HX.out.2.1.below HB.out)).mono ?_); rintro e w2 ⟨rfl, rfl⟩) | ((with_reducible refine (icompare_any Ab nb cb xb Aa na ca xa _ HX.out.2.1 HX.out.1).mono ?_); rintro e w2 ⟨rfl, rfl⟩; rw [ho.out]) | ((with_reducible refine (icompare_any Ab nb cb xb Aa na ca xa _ (HX.out.2.1.below HB.out) (HX.out.1.below HB.out)).mono ?_); rintro e w2 ⟨rfl, rfl⟩; rw [ho.out]) | ((with_reducible refine (icompare_any Ab nb cb xb Ac nc cc xc _ HX.out.2.1 HX.out.2.2).mono ?_); rintro e w2 ⟨rfl, rfl⟩) | ((with_reducible refine (icompare_any Ab nb cb xb Ac nc cc xc _ (HX.out.2.1.below HB.out) (HX.out.2.2.below HB.out)).mono ?_); rintro e w2 ⟨rfl, rfl⟩) | ((with_reducible refine (icompare_any Aa na ca xa Ac nc cc xc _ HX.out.1 HX.out.2.2).mono ?_); rintro e w2 ⟨rfl, rfl⟩) | ((with_reducible refine (icompare_any Aa na ca xa Ac nc cc xc _ (HX.out.1.below HB.out) (HX.out.2.2.below HB.out)).mono ?_); rintro e w2 ⟨rfl, rfl⟩)) | (go_at_call 51; refine (rcompare_any Aa na ca xa Ab nb cb xb _ (HX.out.1.below HB.out) (HX.out.2.1.below HB.out)).mono ?_; rintro e w3 ⟨rfl, m3, hm3⟩; (replace HB := Aside0.mk (below_then HB.out HB.out.size (below_eq hm3))); clear hm3))
    go_ret
    exact ⟨ret_bool (by first | rfl | simp), HB.out⟩
  have q2 := dI_f p2
  have q3 : decide (Lib.compareBytes xa xc ≤ 0) = true := dI_t (hr.out (by omega) (by omega))
  go_enter Try.func11, Try.ntmps11
  go_wp2_with (first | (go_at_call 26; refine (alive05_any _).mono ?_; rintro e w1 ⟨rfl, hB⟩; (have HB := Aside0.mk hB); clear hB) | (go_at_call 50; first | ((with_reducible refine (icompare_any Aa na ca xa Ab nb cb xb _ HX.out.1 HX.out.2.1).mono ?_); rintro e w2 ⟨rfl, rfl⟩) | ((with_reducible refine (icompare_any Aa na ca xa Ab nb cb xb _ (HX.out.1.below HB.out) (HX.out.2.1.below HB.out)).mono ?_); rintro e w2 ⟨rfl, rfl⟩) | ((with_reducible refine (icompare_any Ab nb cb xb Aa na ca xa _ HX.out.2.1 HX.out.1).mono ?_); rintro e w2 ⟨rfl, rfl⟩; rw [ho.out]) | ((with_reducible refine (icompare_any Ab nb cb xb Aa na ca xa _ (HX.out.2.1.below HB.out) (HX.out.1.below HB.out)).mono ?_); rintro e w2 ⟨rfl, rfl⟩; rw [ho.out]) | ((with_reducible refine (icompare_any Ab nb cb xb Ac nc cc xc _ HX.out.2.1 HX.out.2.2).mono ?_); rintro e w2 ⟨rfl, rfl⟩) | ((with_reducible refine (icompare_any Ab nb cb xb Ac nc cc xc _ (HX.out.2.1.below HB.out) (HX.out.2.2.below HB.out)).mono ?_); rintro e w2 ⟨rfl, rfl⟩) | ((with_reducible refine (icompare_any Aa na ca xa Ac nc cc xc _ HX.out.1 HX.out.2.2).mono ?_); rintro e w2 ⟨rfl, rfl⟩) | ((with_reducible refine (icompare_any Aa na ca xa Ac nc cc xc _ (HX.out.1.below HB.out) (HX.out.2.2.below HB.out)).mono ?_); rintro e w2 ⟨rfl, rfl⟩)) | (go_at_call 51; refine (rcompare_any Aa na ca xa Ab nb cb xb _ (HX.out.1.below HB.out) (HX.out.2.1.below HB.out)).mono ?_; rintro e w3 ⟨rfl, m3, hm3⟩; (replace HB := Aside0.mk (below_then HB.out HB.out.size (below_eq hm3))); clear hm3))
  go_ret
  exact ⟨ret_bool (by first | rfl | simp), HB.out⟩
end Go.Proofs.Ytaoaenjhclicfaa
