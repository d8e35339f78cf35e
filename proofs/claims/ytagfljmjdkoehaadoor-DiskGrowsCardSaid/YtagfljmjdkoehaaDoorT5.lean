/- The walk of the law DiskGrows. -/
import Derived.Test.YtagfljmjdkoehaaDoorT4
import Derived.Test.YtagfljmjdkoehaaDoorZH
set_option linter.unusedVariables false
set_option linter.unusedSimpArgs false
namespace Go.Proofs.YtagfljmjdkoehaaDoor
open Go.RowKit

theorem pre8_app (a b : List UInt8) : pre8 (a ++ b) a = true := decide_eq_true ⟨by rw [List.length_append]; omega, List.take_left' rfl⟩
set_option maxHeartbeats 32000000 in
set_option maxRecDepth 100000 in
theorem diskGrows_any (A : Option Addr) (n c : Nat) (xs : List UInt8) (limit : Int) (L : Option Addr) (ln lc : Nat) (zs : List Int) (w : World) (hb : Bs w A n c xs) (hz : Is w L ln lc zs) (hzb : ∀ j, j < ln → -9223372036854775808 ≤ zs.getD j 0 ∧ zs.getD j 0 ≤ 9223372036854775807) :
    Calls Tryd.prog 4 #[.slice A n c, .int .i64 limit, .slice L ln lc] w fun e w' => e = .returned (.bool true) ∧ Below w.heap.size w w' := by
  have HB := Aside0.mk (And.intro hb (And.intro hz hzb))
  clear hb hz hzb
  go_enter Tryd.func4, Tryd.ntmps4
  by_cases q1 : (3000 : Int) < (n : Int)
  · have gq1 : decide ((3000 : Int) < (n : Int)) = true := decide_eq_true q1
    clear q1
    go_wp2_with (first
      | (go_at_call 14; with_reducible refine (aliveD_any w).mono ?_; rintro e we ⟨rfl, hB⟩; (have HE := Aside0.mk hB); clear hB)
      | fail)
    go_ret
    exact ⟨rfl, HE.out⟩
  have gq1 : decide ((3000 : Int) < (n : Int)) = false := decide_eq_false q1
  by_cases q2 : 200 < limit
  · have gq2 : decide (200 < limit) = true := decide_eq_true q2
    clear q2
    go_wp2_with (first
      | (go_at_call 14; with_reducible refine (aliveD_any w).mono ?_; rintro e we ⟨rfl, hB⟩; (have HE := Aside0.mk hB); clear hB)
      | fail)
    go_ret
    exact ⟨rfl, HE.out⟩
  have gq2 : decide (200 < limit) = false := decide_eq_false q2
  by_cases q3 : (60 : Int) < (ln : Int)
  · have gq3 : decide ((60 : Int) < (ln : Int)) = true := decide_eq_true q3
    clear q3
    go_wp2_with (first
      | (go_at_call 14; with_reducible refine (aliveD_any w).mono ?_; rintro e we ⟨rfl, hB⟩; (have HE := Aside0.mk hB); clear hB)
      | fail)
    go_ret
    exact ⟨rfl, HE.out⟩
  have gq3 : decide ((60 : Int) < (ln : Int)) = false := decide_eq_false q3
  have HN := Aside0.mk (show n ≤ 3000 ∧ limit ≤ 200 ∧ ln ≤ 60 by omega)
  clear q1 q2 q3
  obtain ⟨LI, hLI⟩ : ∃ x, limI limit = x := ⟨_, rfl⟩
  have HLI := Aside0.mk (show 0 ≤ LI ∧ LI ≤ 200 from by rw [← hLI]; unfold limI; have := HN.out; omega)
  have H0 := Aside0.mk (show Gr LI (⟨limI limit, loadL xs (cntL n (limI limit)), [], 0, -1, false⟩ : DV) from by
    have hn := nD_of (d := ⟨limI limit, loadL xs (cntL n (limI limit)), [], 0, -1, false⟩) (loadL_len xs (cntL n (limI limit)))
    have hok := newD_ok _ (limI_le limit).1 (limI_le limit).2 _ _ (loadL_len xs (cntL n (limI limit)))
    refine ⟨rfl, rfl, hLI, by rw [hn]; exact hok, ?_⟩
    rw [hn]
    unfold cntL
    have := HLI.out
    omega)
  clear hLI
  go_upto_region 7 with (go_at_call 15; refine (load_h (w0 := w) A n c xs limit w HB.out.1 (by have := HN.out; omega) (Below.refl _ _)).mono ?_; rintro e w1 ⟨g, rfl, hH, _⟩; (have H1 := Aside0.mk hH); clear hH)
  clear gq1 gq2 gq3
  go_loopg [34] ln (fun gk v34 wr => ∃ j : Nat, Aside (gk + j = ln) ∧ v34 = .int .i64 (j : Int) ∧ Aside0 (∃ d, Gr LI d ∧ DH w g [] d wr))
  case atStart => exact ⟨0, rfl, rfl, ⟨_, H0.out, H1.out⟩⟩
  case round =>
    obtain ⟨j, hk, rfl, hI⟩ := hrel
    obtain ⟨d, hG, hH⟩ := hI.out
    have HG := Aside0.mk hG
    have HH := Aside0.mk hH
    clear hG hH hI
    have hjn : j ≤ ln := by have := hk.out; omega
    by_cases hlt : j < ln
    · have hjl : (j : Int) < (ln : Int) := by omega
      have iwj : IntKind.i64.wrap ((j : Int) + 1) = (j : Int) + 1 := IntWalk.i64_in _ (by have := HN.out; omega)
      have dj : decide ((j : Int) < (ln : Int)) = true := decide_eq_true hjl
      obtain ⟨ad, rfl, hc⟩ := (HB.out.2.1.below HH.out.bel).cells j hlt
      obtain ⟨z, hz⟩ : ∃ z, zs.getD j 0 = z := ⟨_, rfl⟩
      have HZ := Aside0.mk (show -9223372036854775808 ≤ z ∧ z ≤ 9223372036854775807 from by rw [← hz]; exact HB.out.2.2 j hlt)
      rw [hz] at hc
      clear hz
      obtain ⟨k, hkd⟩ : ∃ k, nD d = k := ⟨_, rfl⟩
      obtain ⟨kk, hkk⟩ : ∃ x, k * 64 = x := ⟨_, rfl⟩
      have HK := Aside0.mk (And.intro hkd hkk)
      have HM := Aside0.mk (show k ≤ 200 from by have h1 := HG.out.le; have h2 := HLI.out; omega)
      clear hkd hkk
      go_upto_region 10 with (first
        | (go_at_call 16; refine (image_h HH.out).mono ?_; rintro e w2 ⟨A1, c1, rfl, hO, hB⟩; rw [seen_nil HG.out.row, HK.out.1, HK.out.2] at hO; rw [HK.out.1, HK.out.2]; (obtain ⟨R1, hD1, hI1, _⟩ := HH.out.own hB hO); (have H2 := Aside0.mk (And.intro hD1 (And.intro hI1 hO.bs))); clear hO hB hD1 hI1)
        | (go_at_call 17; refine (size_h H2.out.1).mono ?_; rintro e w3 ⟨rfl, rfl⟩; rw [HK.out.1])
        | fail)
      obtain ⟨e1, he1⟩ : ∃ x, growE d z = x := ⟨_, rfl⟩
      obtain ⟨d1, hd1⟩ : ∃ x, growD d z = x := ⟨_, rfl⟩
      obtain ⟨d2, hd2⟩ : ∃ x, crashD d1 [] = x := ⟨_, rfl⟩
      have GG := Aside0.mk (show Grown1 LI z d d1 d2 e1 from by rw [← hd2, ← hd1, ← he1]; exact grown_ok HG.out)
      have HE := Aside0.mk (And.intro he1 (And.intro hd1 hd2))
      obtain ⟨k2, hk2⟩ : ∃ k, nD d2 = k := ⟨_, rfl⟩
      obtain ⟨kk2, hkk2⟩ : ∃ x, k2 * 64 = x := ⟨_, rfl⟩
      have HK2 := Aside0.mk (And.intro hk2 (And.intro hkk2 (show nD d1 = k2 from by rw [GG.out.n1]; exact hk2)))
      have HM2 := Aside0.mk (show k2 ≤ 200 ∧ k ≤ k2 ∧ kk ≤ kk2 from by have h1 := GG.out.gr.le; have h2 := HLI.out; have h3 := GG.out.le; have h4 := HK.out; omega)
      clear he1 hd1 hd2 hk2 hkk2
      go_upto_region 11 with (go_at_call 18; refine (grow_h H2.out.1 z).mono ?_; rintro e w4 ⟨rfl, hD⟩; rw [HE.out.1]; rw [HE.out.2.1] at hD; (have H4 := Aside0.mk hD); clear hD)
      have iw : IntKind.i64.wrap ((k2 : Int) * 64) = (kk2 : Int) := by have h1 := HK2.out.2.1; have h2 := HM2.out; rw [show (k2 : Int) * 64 = (kk2 : Int) by omega]; exact IntWalk.i64_in _ (by omega)
      have hs2 := HK2.out.2.1
      clear hs2
      have hRb : ∀ X : World, Rb X none 0 0 [] := fun X => ⟨rfl, Nat.le_refl _, by omega, by omega, fun h => absurd h (by omega)⟩
      have hpre : pre8 d2.l d.l = true := by rw [GG.out.im]; exact pre8_app _ _
      have hdrop : d2.l.drop kk = List.replicate (kk2 - kk) 0 := by
        have h1 : d.l.length = kk := by rw [HG.out.ok.len, HK.out.1, HK.out.2]
        rw [GG.out.im, ← h1, List.drop_left, HK2.out.1, HK.out.1, h1]
        congr 1
        have h2 := HK2.out.2.1
        have h3 := HK.out.2
        omega
      have HPD := Aside0.mk (And.intro hpre hdrop)
      replace hRb := Aside0.mk hRb
      clear hpre hdrop
      by_cases qn : LI < z
      · have gn : decide (LI < z) = true := decide_eq_true qn
        obtain ⟨he, hkn⟩ := GG.out.full qn
        subst he
        obtain rfl : k2 = k := by rw [← HK2.out.1, ← HK.out.1]; exact hkn
        clear hkn qn
        go_upto_region 13 with (first
          | (go_at_call 19; refine (limit_h H4.out).mono ?_; rintro e w5 ⟨rfl, rfl⟩; rw [GG.out.l1])
          | (go_at_call 17; refine (size_h H4.out).mono ?_; rintro e w5 ⟨rfl, rfl⟩; rw [HK2.out.2.2])
          | fail)
        go_upto_region 14 with (go_at_call 20; refine (crash_h H4.out none 0 0 [] (hRb.out w4) (fun h => absurd h (by omega))).mono ?_; rintro e w5 ⟨rfl, hD⟩; rw [HE.out.2.2] at hD; (have H5 := Aside0.mk (And.intro hD (H2.out.1.same hD H2.out.2.1 H2.out.2.2))); clear hD)
        go_upto_region 15 with (go_at_call 16; refine (image_h H5.out.1).mono ?_; rintro e w6 ⟨A6, c6, rfl, hO, hB⟩; rw [seen_nil GG.out.gr.row, HK2.out.1, HK2.out.2.1] at hO; rw [HK2.out.1, HK2.out.2.1]; (have H6 := Aside0.mk (And.intro (H5.out.1.step hB) (And.intro (H5.out.2.below hB) hO.bs))); clear hO hB)
        have hcap := H6.out.2.2.le
        have hccap := H6.out.2.2.cap
        have hkk3 := HM2.out
        have t1 : ∀ W : World, (Instr.slice 27 (.slice A6 kk2 c6) (some (.int .i64 (kk : Int))) none none).run Tryd.prog W = .ok (.slice (cutA A6 c6 kk) (kk2 - kk) (c6 - kk)) W := fun W => by
          rw [sl8_l W A6 kk2 c6 .i64 (kk : Int) (by omega) (by omega), Int.toNat_natCast]
        clear hcap hccap hkk3
        go_wp2_with (first
          | (go_at_call 17; refine (size_h H6.out.1).mono ?_; rintro e w7 ⟨rfl, rfl⟩; rw [HK2.out.1])
          | (go_at_call 10; refine (hasPrefix_any A6 kk2 c6 d2.l A1 kk c1 d.l w6 H6.out.2.2 H6.out.2.1).mono ?_; rintro e w7 ⟨rfl, rfl⟩; rw [HPD.out.1])
          | (go_at_call 13; refine (trim_any (cutA A6 c6 kk) (kk2 - kk) (c6 - kk) w6 (by have h := H6.out.2.2.drop kk (by have := HM2.out; omega); rw [HPD.out.2] at h; exact h)).mono ?_; rintro e w8 ⟨rfl, hB⟩; (have H8 := Aside0.mk (H6.out.1.step hB)); clear hB)
          | fail)
        have hln60 : ln ≤ 60 := HN.out.2.2
        go_roundg (ln - (j + 1))
        case measure => have := hk.out; omega
        case rel => exact ⟨j + 1, by have := hk.out; exact (show ln - (j + 1) + (j + 1) = ln by omega), by go_num, ⟨d2, GG.out.gr, H8.out.drop (fun p hp => by cases hp)⟩⟩
      · have gn : decide (LI < z) = false := decide_eq_false qn
        obtain ⟨he, hkn⟩ := GG.out.went (by omega)
        subst he
        rw [HK2.out.1, HK.out.1] at hkn
        by_cases qz : z ≤ (k : Int)
        · obtain rfl : k2 = k := by omega
          have fz : ¬ ((k2 : Int) < z) := by omega
          clear hkn qn
          go_upto_region 13 with (first
            | (go_at_call 19; refine (limit_h H4.out).mono ?_; rintro e w5 ⟨rfl, rfl⟩; rw [GG.out.l1])
            | (go_at_call 17; refine (size_h H4.out).mono ?_; rintro e w5 ⟨rfl, rfl⟩; rw [HK2.out.2.2])
            | fail)
          go_upto_region 14 with (go_at_call 20; refine (crash_h H4.out none 0 0 [] (hRb.out w4) (fun h => absurd h (by omega))).mono ?_; rintro e w5 ⟨rfl, hD⟩; rw [HE.out.2.2] at hD; (have H5 := Aside0.mk (And.intro hD (H2.out.1.same hD H2.out.2.1 H2.out.2.2))); clear hD)
          go_upto_region 15 with (go_at_call 16; refine (image_h H5.out.1).mono ?_; rintro e w6 ⟨A6, c6, rfl, hO, hB⟩; rw [seen_nil GG.out.gr.row, HK2.out.1, HK2.out.2.1] at hO; rw [HK2.out.1, HK2.out.2.1]; (have H6 := Aside0.mk (And.intro (H5.out.1.step hB) (And.intro (H5.out.2.below hB) hO.bs))); clear hO hB)
          have hcap := H6.out.2.2.le
          have hccap := H6.out.2.2.cap
          have hkk3 := HM2.out
          have t1 : ∀ W : World, (Instr.slice 27 (.slice A6 kk2 c6) (some (.int .i64 (kk : Int))) none none).run Tryd.prog W = .ok (.slice (cutA A6 c6 kk) (kk2 - kk) (c6 - kk)) W := fun W => by
            rw [sl8_l W A6 kk2 c6 .i64 (kk : Int) (by omega) (by omega), Int.toNat_natCast]
          clear hcap hccap hkk3
          go_wp2_with (first
            | (go_at_call 17; refine (size_h H6.out.1).mono ?_; rintro e w7 ⟨rfl, rfl⟩; rw [HK2.out.1])
            | (go_at_call 10; refine (hasPrefix_any A6 kk2 c6 d2.l A1 kk c1 d.l w6 H6.out.2.2 H6.out.2.1).mono ?_; rintro e w7 ⟨rfl, rfl⟩; rw [HPD.out.1])
            | (go_at_call 13; refine (trim_any (cutA A6 c6 kk) (kk2 - kk) (c6 - kk) w6 (by have h := H6.out.2.2.drop kk (by have := HM2.out; omega); rw [HPD.out.2] at h; exact h)).mono ?_; rintro e w8 ⟨rfl, hB⟩; (have H8 := Aside0.mk (H6.out.1.step hB)); clear hB)
            | fail)
          have hln60 : ln ≤ 60 := HN.out.2.2
          go_roundg (ln - (j + 1))
          case measure => have := hk.out; omega
          case rel => exact ⟨j + 1, by have := hk.out; exact (show ln - (j + 1) + (j + 1) = ln by omega), by go_num, ⟨d2, GG.out.gr, H8.out.drop (fun p hp => by cases hp)⟩⟩
        · obtain rfl : z = (k2 : Int) := by omega
          have fz : (k : Int) < (k2 : Int) := by omega
          have fz2 : k < k2 := by omega
          clear hkn qn qz
          go_upto_region 13 with (first
            | (go_at_call 19; refine (limit_h H4.out).mono ?_; rintro e w5 ⟨rfl, rfl⟩; rw [GG.out.l1])
            | (go_at_call 17; refine (size_h H4.out).mono ?_; rintro e w5 ⟨rfl, rfl⟩; rw [HK2.out.2.2])
            | fail)
          go_upto_region 14 with (go_at_call 20; refine (crash_h H4.out none 0 0 [] (hRb.out w4) (fun h => absurd h (by omega))).mono ?_; rintro e w5 ⟨rfl, hD⟩; rw [HE.out.2.2] at hD; (have H5 := Aside0.mk (And.intro hD (H2.out.1.same hD H2.out.2.1 H2.out.2.2))); clear hD)
          go_upto_region 15 with (go_at_call 16; refine (image_h H5.out.1).mono ?_; rintro e w6 ⟨A6, c6, rfl, hO, hB⟩; rw [seen_nil GG.out.gr.row, HK2.out.1, HK2.out.2.1] at hO; rw [HK2.out.1, HK2.out.2.1]; (have H6 := Aside0.mk (And.intro (H5.out.1.step hB) (And.intro (H5.out.2.below hB) hO.bs))); clear hO hB)
          have hcap := H6.out.2.2.le
          have hccap := H6.out.2.2.cap
          have hkk3 := HM2.out
          have t1 : ∀ W : World, (Instr.slice 27 (.slice A6 kk2 c6) (some (.int .i64 (kk : Int))) none none).run Tryd.prog W = .ok (.slice (cutA A6 c6 kk) (kk2 - kk) (c6 - kk)) W := fun W => by
            rw [sl8_l W A6 kk2 c6 .i64 (kk : Int) (by omega) (by omega), Int.toNat_natCast]
          clear hcap hccap hkk3
          go_wp2_with (first
            | (go_at_call 17; refine (size_h H6.out.1).mono ?_; rintro e w7 ⟨rfl, rfl⟩; rw [HK2.out.1])
            | (go_at_call 10; refine (hasPrefix_any A6 kk2 c6 d2.l A1 kk c1 d.l w6 H6.out.2.2 H6.out.2.1).mono ?_; rintro e w7 ⟨rfl, rfl⟩; rw [HPD.out.1])
            | (go_at_call 13; refine (trim_any (cutA A6 c6 kk) (kk2 - kk) (c6 - kk) w6 (by have h := H6.out.2.2.drop kk (by have := HM2.out; omega); rw [HPD.out.2] at h; exact h)).mono ?_; rintro e w8 ⟨rfl, hB⟩; (have H8 := Aside0.mk (H6.out.1.step hB)); clear hB)
            | fail)
          have hln60 : ln ≤ 60 := HN.out.2.2
          go_roundg (ln - (j + 1))
          case measure => have := hk.out; omega
          case rel => exact ⟨j + 1, by have := hk.out; exact (show ln - (j + 1) + (j + 1) = ln by omega), by go_num, ⟨d2, GG.out.gr, H8.out.drop (fun p hp => by cases hp)⟩⟩
    · obtain rfl : ln = j := by omega
      have dj : decide ((ln : Int) < (ln : Int)) = false := by simp
      have HL2 := Aside0.mk HG.out.le
      obtain ⟨k, hkd⟩ : ∃ k, nD d = k := ⟨_, rfl⟩
      have dk : decide ((k : Int) ≤ LI) = true := decide_eq_true (by rw [← hkd]; exact HG.out.le)
      have HK := Aside0.mk hkd
      clear hkd
      go_wp2_with (first
        | (go_at_call 14; with_reducible refine (aliveD_any wr).mono ?_; rintro e w2 ⟨rfl, hB⟩; (have H2 := Aside0.mk (HH.out.step hB)); clear hB)
        | (go_at_call 17; refine (size_h H2.out).mono ?_; rintro e w3 ⟨rfl, rfl⟩; rw [HK.out])
        | (go_at_call 19; refine (limit_h H2.out).mono ?_; rintro e w3 ⟨rfl, rfl⟩; rw [HG.out.lim])
        | fail)
      go_ret
      exact ⟨rfl, H2.out.bel⟩
end Go.Proofs.YtagfljmjdkoehaaDoor
