/- The walk of ref07's one: an item, or a kid, at a place of a body. -/
import Derived.Test.YtbjfklgmbeaaoaaGreatKS
import Derived.Test.YtbjfklgmbeaaoaaGreatV6
set_option linter.unusedVariables false
set_option linter.unusedSimpArgs false
namespace Go.Proofs.YtbjfklgmbeaaoaaGreat
open Go.RowKit

theorem Bs.sub {w : World} {A : Option Addr} {n c : Nat} {X : List UInt8} (h : Bs w A n c X) (l m : Nat) (hl : l + m ≤ n) : Bs w (cutA A c l) m (c - l) ((X.drop l).take m) := (h.drop l (by omega)).take m (by omega)
theorem iload2 (w : World) (a b c d : Value) (o2 : Obj) : (loadVar 70 ⟨w.heap.size, 0, none⟩).run Tryz.prog ((w.alloc (.cells #[a, b, c, d] 70)).alloc o2) = .ok (.agg #[a, b, c, d]) ((w.alloc (.cells #[a, b, c, d] 70)).alloc o2) :=
  run_loadVar_row _ w.heap.size 70 70 _ (0, 0) _ ((((Below.refl _ (w.alloc (.cells #[a, b, c, d] 70))).alloc (Nat.le_refl _) o2).block _ (by simp)).trans (heap_alloc_new w _)) Tryz.underlying70 rfl (by kernel_rfl)
/-- What one tells of an item; of a kid. -/
def oneIR (A : Option Addr) (n c : Nat) (X : List UInt8) (g : Int) (a : Nat) (p : IH) (en : Int) : Prop := match oneI X g a with
  | none => en = -1
  | some r => en = (r.2 : Int) ∧ (∀ W, Bs W A n c X → Bsh W p.k r.1.k ∧ Bsh W p.v r.1.v) ∧ p.s = r.1.s ∧ p.r = r.1.r
def oneKR (A : Option Addr) (n c : Nat) (X : List UInt8) (g : Int) (a : Nat) (p : IH) (en : Int) : Prop := match oneK X g a with
  | none => en = -1
  | some r => en = (r.2 : Int) ∧ (∀ W, Bs W A n c X → Bsh W p.k r.1.k) ∧ p.r = r.1.r
set_option maxHeartbeats 4000000 in
set_option maxRecDepth 100000 in
theorem oneK_any (g : Int) (A : Option Addr) (n c a : Nat) (X : List UInt8) (w : World) (hg : 1 ≤ g ∧ g ≤ 3) (hb : Bs w A n c X) (hn : n ≤ 256) (ha : a ≤ 256) :
    Calls Tryz.prog 58 #[.int .i64 g, .bool false, .slice A n c, .int .i64 (a : Int)] w fun e w' => ∃ (p : IH) (en : Int), e = .returned (.tuple #[.agg #[.slice p.k.1 p.k.2.1 p.k.2.2, .slice p.v.1 p.v.2.1 p.v.2.2, .int .i64 p.s, .int .i64 p.r], .int .i64 en]) ∧ oneKR A n c X g a p en ∧ Below w.heap.size w w' := by
  have hlim := hb.lim
  have hlen := hb.len
  have hcap := hb.le
  have HX := Aside0.mk hb
  have HN := Aside0.mk hlen
  have HB2 := Aside0.mk (fun (o1 o2 : Obj) => below_two w o1 o2)
  obtain ⟨L, hL⟩ : ∃ x, bN X a = x := ⟨_, rfl⟩
  obtain ⟨J, hJ⟩ : ∃ x, (iwI g).toNat = x := ⟨_, rfl⟩
  have hJ2 : iwI g = (J : Int) := by rcases iw_in hg with e | e <;> rw [e] at hJ ⊢ <;> omega
  have hJ8 : J ≤ 8 := by rcases iw_in hg with e | e <;> rw [e] at hJ <;> omega
  have hL8 : L ≤ 255 := by rw [← hL]; exact bN_le X a
  have HL := Aside0.mk (And.intro hL (And.intro hJ hJ2))
  have cI : ∀ W, Calls Tryz.prog 56 #[.int .i64 g] W fun e w' => e = .returned (.int .i64 (J : Int)) ∧ W = w' := fun W => by rw [← hJ2]; exact rIdWidth_any g W
  have wA1 : IntKind.i64.wrap ((a : Int) + 1) = (a : Int) + 1 := IntWalk.i64_in _ (by omega)
  have wA2 : IntKind.i64.wrap ((a : Int) + 2) = (a : Int) + 2 := IntWalk.i64_in _ (by omega)
  have wA4 : IntKind.i64.wrap ((a : Int) + 4) = (a : Int) + 4 := IntWalk.i64_in _ (by omega)
  have w1L : IntKind.i64.wrap ((a : Int) + 1 + (L : Int)) = (a : Int) + 1 + (L : Int) := IntWalk.i64_in _ (by omega)
  have w1J : IntKind.i64.wrap ((a : Int) + 1 + (L : Int) + (J : Int)) = (a : Int) + 1 + (L : Int) + (J : Int) := IntWalk.i64_in _ (by omega)
  have w4L : IntKind.i64.wrap ((a : Int) + 4 + (L : Int)) = (a : Int) + 4 + (L : Int) := IntWalk.i64_in _ (by omega)
  have w4J : IntKind.i64.wrap ((a : Int) + 4 + (L : Int) + (J : Int)) = (a : Int) + 4 + (L : Int) + (J : Int) := IntWalk.i64_in _ (by omega)
  have wL : IntKind.i64.wrap (L : Int) = (L : Int) := IntWalk.i64_in _ (by omega)
  have hD := fun (x0 x1 x2 x3 : Value) (o2 : Obj) => iload2 w x0 x1 x2 x3 o2
  clear hb hg hL hJ hJ2
  by_cases q1 : a < n
  case neg =>
    have d1 : decide ((n : Int) ≤ (a : Int)) = true := decide_eq_true (by omega)
    have d1' : (n : Int) ≤ (a : Int) := by omega
    have d1n : n ≤ a := by omega
    have HM := Aside0.mk (show oneK X g a = none from if_neg (fun h => q1 (by rw [HN.out] at h; exact h.1)))
    clear q1
    go_enter Tryz.func58, Tryz.ntmps58
    go_wp2_with (go_at_call 56; refine (cI _).mono ?_; rintro e w9 ⟨rfl, rfl⟩)
    refine bodyPost_ret (v := .tuple #[.agg #[.slice none 0 0, .slice none 0 0, .int .i64 0, .int .i64 0], .int .i64 (-1)]) (by simp [results, Tryz.results58, asAddr, hD]) rfl ?_
    refine ⟨⟨(none, 0, 0), (none, 0, 0), 0, 0⟩, -1, rfl, ?_, HB2.out _ _⟩
    unfold oneKR
    rw [HM.out]
  case pos =>
    have d1 : decide ((n : Int) ≤ (a : Int)) = false := decide_eq_false (by omega)
    have d1' : ¬ (n : Int) ≤ (a : Int) := by omega
    have d1n : ¬ n ≤ a := by omega
    have d1a : (a : Int) < (n : Int) := by omega
    obtain ⟨ad, rfl, k0⟩ := HX.out.atN a q1
    have k1 : ∀ o1 o2, ((w.alloc o1).alloc o2).cell? (ad.add a) = some (.int .u8 (L : Int)) := fun o1 o2 => by rw [cell_below (HB2.out o1 o2) k0, b8_bN, HL.out.1]
    have HK := Aside0.mk k0
    clear k0
    by_cases q2 : a + 1 + L + J ≤ n
    case neg =>
      have d2 : decide ((n : Int) < (a : Int) + 1 + (L : Int) + (J : Int)) = true := decide_eq_true (by omega)
      have d2' : (n : Int) < (a : Int) + 1 + (L : Int) + (J : Int) := by omega
      have HM := Aside0.mk (show oneK X g a = none from if_neg (fun h => q2 (by rw [HN.out, HL.out.1, HL.out.2.1] at h; exact h.2)))
      clear q2
      go_enter Tryz.func58, Tryz.ntmps58
      go_wp2_with (go_at_call 56; refine (cI _).mono ?_; rintro e w9 ⟨rfl, rfl⟩)
      refine bodyPost_ret (v := .tuple #[.agg #[.slice none 0 0, .slice none 0 0, .int .i64 0, .int .i64 0], .int .i64 (-1)]) (by simp [results, Tryz.results58, asAddr, hD]) rfl ?_
      refine ⟨⟨(none, 0, 0), (none, 0, 0), 0, 0⟩, -1, rfl, ?_, HB2.out _ _⟩
      unfold oneKR
      rw [HM.out]
    case pos =>
      have d2 : decide ((n : Int) < (a : Int) + 1 + (L : Int) + (J : Int)) = false := decide_eq_false (by omega)
      have d2' : ¬ (n : Int) < (a : Int) + 1 + (L : Int) + (J : Int) := by omega
      have HM := Aside0.mk (show oneK X g a = some (⟨(X.drop (a + 1)).take L, nm7 ((X.drop (a + 1 + L)).take J)⟩, a + 1 + L + J) by
        unfold oneK
        rw [HN.out, HL.out.1, HL.out.2.1, if_pos ⟨q1, q2⟩])
      have s1 : ∀ W : World, (Instr.slice 22 (.slice (some ad) n c) (some (.int .i64 ((a : Int) + 1))) (some (.int .i64 ((a : Int) + 1 + (L : Int)))) none).run Tryz.prog W = .ok (.slice (cutA (some ad) c (a + 1)) L (c - (a + 1))) W := fun W => by
        have h := sl8_lh W (some ad) n c .i64 .i64 ((a : Int) + 1) ((a : Int) + 1 + (L : Int)) (by omega) (by omega) (by omega)
        rw [show ((a : Int) + 1).toNat = a + 1 by omega, show ((a : Int) + 1 + (L : Int)).toNat - (a + 1) = L by omega] at h
        exact h
      have s2 : ∀ W : World, (Instr.slice 22 (.slice (some ad) n c) (some (.int .i64 ((a : Int) + 1 + (L : Int)))) (some (.int .i64 ((a : Int) + 1 + (L : Int) + (J : Int)))) none).run Tryz.prog W = .ok (.slice (cutA (some ad) c (a + 1 + L)) J (c - (a + 1 + L))) W := fun W => by
        have h := sl8_lh W (some ad) n c .i64 .i64 ((a : Int) + 1 + (L : Int)) ((a : Int) + 1 + (L : Int) + (J : Int)) (by omega) (by omega) (by omega)
        rw [show ((a : Int) + 1 + (L : Int)).toNat = a + 1 + L by omega, show ((a : Int) + 1 + (L : Int) + (J : Int)).toNat - (a + 1 + L) = J by omega] at h
        exact h
      have HQ := Aside0.mk (And.intro q1 q2)
      obtain ⟨nm, hnm⟩ : ∃ x, nm7 ((X.drop (a + 1 + L)).take J) = x := ⟨_, rfl⟩
      rw [hnm] at HM
      have HNM := Aside0.mk hnm
      clear q1 q2 hnm
      go_enter Tryz.func58, Tryz.ntmps58
      go_wp2_with (first
        | (go_at_call 56; refine (cI _).mono ?_; rintro e w9 ⟨rfl, rfl⟩)
        | (go_at_call 55; refine (number7_any _ _ _ _ _ ((HX.out.below (HB2.out _ _)).sub (a + 1 + L) J (by have := HQ.out; omega)) (by omega)).mono ?_; rintro e w8 ⟨rfl, rfl⟩; rw [HNM.out]))
      refine bodyPost_ret (v := .tuple #[.agg #[.slice (cutA (some ad) c (a + 1)) L (c - (a + 1)), .slice none 0 0, .int .i64 0, .int .i64 nm], .int .i64 ((a : Int) + 1 + (L : Int) + (J : Int))]) (by simp [results, Tryz.results58, asAddr, hD]) rfl ?_
      refine ⟨⟨(cutA (some ad) c (a + 1), L, c - (a + 1)), (none, 0, 0), 0, nm⟩, (a : Int) + 1 + (L : Int) + (J : Int), rfl, ?_, HB2.out _ _⟩
      unfold oneKR
      rw [HM.out]
      exact ⟨by simp only; omega, fun W hW => hW.sub (a + 1) L (by have := HQ.out; omega), rfl⟩
set_option maxHeartbeats 4000000 in
set_option maxRecDepth 100000 in
theorem oneI_any (g : Int) (A : Option Addr) (n c a : Nat) (X : List UInt8) (w : World) (hg : 1 ≤ g ∧ g ≤ 3) (hb : Bs w A n c X) (hn : n ≤ 256) (ha : a ≤ 256) :
    Calls Tryz.prog 58 #[.int .i64 g, .bool true, .slice A n c, .int .i64 (a : Int)] w fun e w' => ∃ (p : IH) (en : Int), e = .returned (.tuple #[.agg #[.slice p.k.1 p.k.2.1 p.k.2.2, .slice p.v.1 p.v.2.1 p.v.2.2, .int .i64 p.s, .int .i64 p.r], .int .i64 en]) ∧ oneIR A n c X g a p en ∧ Below w.heap.size w w' := by
  have hlim := hb.lim
  have hlen := hb.len
  have hcap := hb.le
  have HX := Aside0.mk hb
  have HN := Aside0.mk hlen
  have HB2 := Aside0.mk (fun (o1 o2 : Obj) => below_two w o1 o2)
  obtain ⟨L, hL⟩ : ∃ x, bN X a = x := ⟨_, rfl⟩
  obtain ⟨J, hJ⟩ : ∃ x, (iwI g).toNat = x := ⟨_, rfl⟩
  have hJ2 : iwI g = (J : Int) := by rcases iw_in hg with e | e <;> rw [e] at hJ ⊢ <;> omega
  have hJ8 : J ≤ 8 := by rcases iw_in hg with e | e <;> rw [e] at hJ <;> omega
  have hL8 : L ≤ 255 := by rw [← hL]; exact bN_le X a
  have HL := Aside0.mk (And.intro hL (And.intro hJ hJ2))
  have cI : ∀ W, Calls Tryz.prog 56 #[.int .i64 g] W fun e w' => e = .returned (.int .i64 (J : Int)) ∧ W = w' := fun W => by rw [← hJ2]; exact rIdWidth_any g W
  have wA1 : IntKind.i64.wrap ((a : Int) + 1) = (a : Int) + 1 := IntWalk.i64_in _ (by omega)
  have wA2 : IntKind.i64.wrap ((a : Int) + 2) = (a : Int) + 2 := IntWalk.i64_in _ (by omega)
  have wA4 : IntKind.i64.wrap ((a : Int) + 4) = (a : Int) + 4 := IntWalk.i64_in _ (by omega)
  have w1L : IntKind.i64.wrap ((a : Int) + 1 + (L : Int)) = (a : Int) + 1 + (L : Int) := IntWalk.i64_in _ (by omega)
  have w1J : IntKind.i64.wrap ((a : Int) + 1 + (L : Int) + (J : Int)) = (a : Int) + 1 + (L : Int) + (J : Int) := IntWalk.i64_in _ (by omega)
  have w4L : IntKind.i64.wrap ((a : Int) + 4 + (L : Int)) = (a : Int) + 4 + (L : Int) := IntWalk.i64_in _ (by omega)
  have w4J : IntKind.i64.wrap ((a : Int) + 4 + (L : Int) + (J : Int)) = (a : Int) + 4 + (L : Int) + (J : Int) := IntWalk.i64_in _ (by omega)
  have wL : IntKind.i64.wrap (L : Int) = (L : Int) := IntWalk.i64_in _ (by omega)
  have hD := fun (x0 x1 x2 x3 : Value) (o2 : Obj) => iload2 w x0 x1 x2 x3 o2
  clear hb hg hL hJ hJ2
  by_cases q1 : a < n
  case neg =>
    have d1 : decide ((n : Int) ≤ (a : Int)) = true := decide_eq_true (by omega)
    have d1' : (n : Int) ≤ (a : Int) := by omega
    have d1n : n ≤ a := by omega
    have HM := Aside0.mk (show oneI X g a = none from if_neg (fun h => q1 (by rw [HN.out] at h; exact h.1)))
    clear q1
    go_enter Tryz.func58, Tryz.ntmps58
    go_wp2_with (go_at_call 56; refine (cI _).mono ?_; rintro e w9 ⟨rfl, rfl⟩)
    refine bodyPost_ret (v := .tuple #[.agg #[.slice none 0 0, .slice none 0 0, .int .i64 0, .int .i64 0], .int .i64 (-1)]) (by simp [results, Tryz.results58, asAddr, hD]) rfl ?_
    refine ⟨⟨(none, 0, 0), (none, 0, 0), 0, 0⟩, -1, rfl, ?_, HB2.out _ _⟩
    unfold oneIR
    rw [HM.out]
  case pos =>
    have d1 : decide ((n : Int) ≤ (a : Int)) = false := decide_eq_false (by omega)
    have d1' : ¬ (n : Int) ≤ (a : Int) := by omega
    have d1n : ¬ n ≤ a := by omega
    have d1a : (a : Int) < (n : Int) := by omega
    obtain ⟨ad, rfl, k0⟩ := HX.out.atN a q1
    have k1 : ∀ o1 o2, ((w.alloc o1).alloc o2).cell? (ad.add a) = some (.int .u8 (L : Int)) := fun o1 o2 => by rw [cell_below (HB2.out o1 o2) k0, b8_bN, HL.out.1]
    have HK := Aside0.mk k0
    clear k0
    by_cases q2 : a + 4 + L ≤ n
    case neg =>
      have d2 : decide ((n : Int) < (a : Int) + 4 + (L : Int)) = true := decide_eq_true (by omega)
      have d2' : (n : Int) < (a : Int) + 4 + (L : Int) := by omega
      have HM := Aside0.mk (show oneI X g a = none from if_neg (fun h => q2 (by rw [HN.out, HL.out.1] at h; exact h.2)))
      clear q2
      go_enter Tryz.func58, Tryz.ntmps58
      go_wp2_with (go_at_call 56; refine (cI _).mono ?_; rintro e w9 ⟨rfl, rfl⟩)
      refine bodyPost_ret (v := .tuple #[.agg #[.slice none 0 0, .slice none 0 0, .int .i64 0, .int .i64 0], .int .i64 (-1)]) (by simp [results, Tryz.results58, asAddr, hD]) rfl ?_
      refine ⟨⟨(none, 0, 0), (none, 0, 0), 0, 0⟩, -1, rfl, ?_, HB2.out _ _⟩
      unfold oneIR
      rw [HM.out]
    case pos =>
      have d2 : decide ((n : Int) < (a : Int) + 4 + (L : Int)) = false := decide_eq_false (by omega)
      have d2' : ¬ (n : Int) < (a : Int) + 4 + (L : Int) := by omega
      have HQ := Aside0.mk (And.intro q1 q2)
      have s1 : ∀ W : World, (Instr.slice 22 (.slice (some ad) n c) (some (.int .i64 ((a : Int) + 4))) (some (.int .i64 ((a : Int) + 4 + (L : Int)))) none).run Tryz.prog W = .ok (.slice (cutA (some ad) c (a + 4)) L (c - (a + 4))) W := fun W => by
        have h := sl8_lh W (some ad) n c .i64 .i64 ((a : Int) + 4) ((a : Int) + 4 + (L : Int)) (by omega) (by omega) (by omega)
        rw [show ((a : Int) + 4).toNat = a + 4 by omega, show ((a : Int) + 4 + (L : Int)).toNat - (a + 4) = L by omega] at h
        exact h
      have s2 : ∀ W : World, (Instr.slice 22 (.slice (some ad) n c) (some (.int .i64 ((a : Int) + 2))) (some (.int .i64 ((a : Int) + 4))) none).run Tryz.prog W = .ok (.slice (cutA (some ad) c (a + 2)) 2 (c - (a + 2))) W := fun W => by
        have h := sl8_lh W (some ad) n c .i64 .i64 ((a : Int) + 2) ((a : Int) + 4) (by omega) (by omega) (by omega)
        rw [show ((a : Int) + 2).toNat = a + 2 by omega, show ((a : Int) + 4).toNat - (a + 2) = 2 by omega] at h
        exact h
      obtain ⟨S, hS⟩ : ∃ x, szN X a = x := ⟨_, rfl⟩
      have hS6 : S ≤ 65535 := by rw [← hS]; exact sz_le X a
      have HS := Aside0.mk hS
      have HSZ := Aside0.mk (show nm7 ((X.drop (a + 2)).take 2) = (S : Int) by
        rw [nm7_in (by rw [List.length_take]; omega), ← hS]
        rfl)
      have w4S : IntKind.i64.wrap ((a : Int) + 4 + (L : Int) + (S : Int)) = (a : Int) + 4 + (L : Int) + (S : Int) := IntWalk.i64_in _ (by omega)
      have dA1 : (a : Int) + 1 < (n : Int) := by omega
      have dA0 : (0 : Int) ≤ (a : Int) + 1 := by omega
      obtain ⟨ad', e', k2⟩ := HX.out.atN (a + 1) (by omega)
      injection e' with e'
      subst e'
      obtain ⟨F, hF⟩ : ∃ x, bN X (a + 1) = x := ⟨_, rfl⟩
      have hF8 : F ≤ 255 := by rw [← hF]; exact bN_le X (a + 1)
      have k3 : ∀ o1 o2, ((w.alloc o1).alloc o2).cell? (ad.add (a + 1)) = some (.int .u8 (F : Int)) := fun o1 o2 => by rw [cell_below (HB2.out o1 o2) k2, b8_bN, hF]
      have ea : ad.add (a + 1) = ⟨ad.block, ad.off + (a + 1), none⟩ := by unfold Addr.add; rw [if_neg (by omega)]
      have k4 := k3
      rw [ea] at k4
      have HF := Aside0.mk hF
      clear k2 hS hF q1 q2 ea
      by_cases q3 : F = 0
      case pos =>
        have f0 : ((F : Int) == 0) = true := beq_iff_eq.2 (by omega)
        have f0n : (F == 0) = true := beq_iff_eq.2 q3
        by_cases q4 : a + 4 + L + S ≤ n
        case neg =>
          have d3 : decide ((n : Int) < (a : Int) + 4 + (L : Int) + (S : Int)) = true := decide_eq_true (by omega)
          have d3' : (n : Int) < (a : Int) + 4 + (L : Int) + (S : Int) := by omega
          have HM := Aside0.mk (show oneI X g a = none by
            unfold oneI
            rw [HN.out, HL.out.1, HS.out, HF.out, if_pos HQ.out, if_pos q3, if_neg q4])
          clear q3 q4
          go_enter Tryz.func58, Tryz.ntmps58
          go_wp2_with (first | (go_at_call 56; refine (cI _).mono ?_; rintro e w9 ⟨rfl, rfl⟩) | (go_at_call 55; refine (number7_any (cutA (some ad) c (a + 2)) 2 (c - (a + 2)) _ _ ((HX.out.below (HB2.out _ _)).sub (a + 2) 2 (by have := HQ.out; omega)) (by omega)).mono ?_; rintro e w8 ⟨rfl, rfl⟩; rw [HSZ.out]))
          refine bodyPost_ret (v := .tuple #[.agg #[.slice (cutA (some ad) c (a + 4)) L (c - (a + 4)), .slice none 0 0, .int .i64 0, .int .i64 0], .int .i64 (-1)]) (by simp [results, Tryz.results58, asAddr, hD]) rfl ?_
          refine ⟨⟨(cutA (some ad) c (a + 4), L, c - (a + 4)), (none, 0, 0), 0, 0⟩, -1, rfl, ?_, HB2.out _ _⟩
          unfold oneIR
          rw [HM.out]
        case pos =>
          have d3 : decide ((n : Int) < (a : Int) + 4 + (L : Int) + (S : Int)) = false := decide_eq_false (by omega)
          have d3' : ¬ (n : Int) < (a : Int) + 4 + (L : Int) + (S : Int) := by omega
          have s3 : ∀ W : World, (Instr.slice 22 (.slice (some ad) n c) (some (.int .i64 ((a : Int) + 4 + (L : Int)))) (some (.int .i64 ((a : Int) + 4 + (L : Int) + (S : Int)))) none).run Tryz.prog W = .ok (.slice (cutA (some ad) c (a + 4 + L)) S (c - (a + 4 + L))) W := fun W => by
            have h := sl8_lh W (some ad) n c .i64 .i64 ((a : Int) + 4 + (L : Int)) ((a : Int) + 4 + (L : Int) + (S : Int)) (by omega) (by omega) (by omega)
            rw [show ((a : Int) + 4 + (L : Int)).toNat = a + 4 + L by omega, show ((a : Int) + 4 + (L : Int) + (S : Int)).toNat - (a + 4 + L) = S by omega] at h
            exact h
          have HM := Aside0.mk (show oneI X g a = some (⟨(X.drop (a + 4)).take L, (X.drop (a + 4 + L)).take S, 0, 0⟩, a + 4 + L + S) by
            unfold oneI
            rw [HN.out, HL.out.1, HS.out, HF.out, if_pos HQ.out, if_pos q3, if_pos q4])
          have HQ4 := Aside0.mk q4
          clear q3 q4
          go_enter Tryz.func58, Tryz.ntmps58
          go_wp2_with (first | (go_at_call 56; refine (cI _).mono ?_; rintro e w9 ⟨rfl, rfl⟩) | (go_at_call 55; refine (number7_any (cutA (some ad) c (a + 2)) 2 (c - (a + 2)) _ _ ((HX.out.below (HB2.out _ _)).sub (a + 2) 2 (by have := HQ.out; omega)) (by omega)).mono ?_; rintro e w8 ⟨rfl, rfl⟩; rw [HSZ.out]))
          refine bodyPost_ret (v := .tuple #[.agg #[.slice (cutA (some ad) c (a + 4)) L (c - (a + 4)), .slice (cutA (some ad) c (a + 4 + L)) S (c - (a + 4 + L)), .int .i64 0, .int .i64 0], .int .i64 ((a : Int) + 4 + (L : Int) + (S : Int))]) (by simp [results, Tryz.results58, asAddr, hD]) rfl ?_
          refine ⟨⟨(cutA (some ad) c (a + 4), L, c - (a + 4)), (cutA (some ad) c (a + 4 + L), S, c - (a + 4 + L)), 0, 0⟩, (a : Int) + 4 + (L : Int) + (S : Int), rfl, ?_, HB2.out _ _⟩
          unfold oneIR
          rw [HM.out]
          exact ⟨by simp only; omega, fun W hW => ⟨hW.sub (a + 4) L (by have := HQ.out; omega), hW.sub (a + 4 + L) S HQ4.out⟩, rfl, rfl⟩
      case neg =>
        have f0 : ((F : Int) == 0) = false := beq_eq_false_iff_ne.2 (by omega)
        have f0n : (F == 0) = false := beq_eq_false_iff_ne.2 q3
        by_cases q5 : F ≤ 1
        case neg =>
          have f1 : decide ((1 : Int) < (F : Int)) = true := decide_eq_true (by omega)
          have f1n : decide (1 < F) = true := decide_eq_true (by omega)
          have HM := Aside0.mk (show oneI X g a = none by
            unfold oneI
            rw [HN.out, HL.out.1, HS.out, HF.out, if_pos HQ.out, if_neg q3, if_neg (fun h => q5 h.1)])
          clear q3 q5
          go_enter Tryz.func58, Tryz.ntmps58
          go_wp2_with (first | (go_at_call 56; refine (cI _).mono ?_; rintro e w9 ⟨rfl, rfl⟩) | (go_at_call 55; refine (number7_any (cutA (some ad) c (a + 2)) 2 (c - (a + 2)) _ _ ((HX.out.below (HB2.out _ _)).sub (a + 2) 2 (by have := HQ.out; omega)) (by omega)).mono ?_; rintro e w8 ⟨rfl, rfl⟩; rw [HSZ.out]))
          refine bodyPost_ret (v := .tuple #[.agg #[.slice (cutA (some ad) c (a + 4)) L (c - (a + 4)), .slice none 0 0, .int .i64 0, .int .i64 0], .int .i64 (-1)]) (by simp [results, Tryz.results58, asAddr, hD]) rfl ?_
          refine ⟨⟨(cutA (some ad) c (a + 4), L, c - (a + 4)), (none, 0, 0), 0, 0⟩, -1, rfl, ?_, HB2.out _ _⟩
          unfold oneIR
          rw [HM.out]
        case pos =>
          have f1 : decide ((1 : Int) < (F : Int)) = false := decide_eq_false (by omega)
          have f1n : decide (1 < F) = false := decide_eq_false (by omega)
          by_cases q4 : a + 4 + L + J ≤ n
          case neg =>
            have d3 : decide ((n : Int) < (a : Int) + 4 + (L : Int) + (J : Int)) = true := decide_eq_true (by omega)
            have d3' : (n : Int) < (a : Int) + 4 + (L : Int) + (J : Int) := by omega
            have HM := Aside0.mk (show oneI X g a = none by
              unfold oneI
              rw [HN.out, HL.out.1, HL.out.2.1, HS.out, HF.out, if_pos HQ.out, if_neg q3, if_neg (fun h => q4 h.2.1)])
            clear q3 q4 q5
            go_enter Tryz.func58, Tryz.ntmps58
            go_wp2_with (first | (go_at_call 56; refine (cI _).mono ?_; rintro e w9 ⟨rfl, rfl⟩) | (go_at_call 55; refine (number7_any (cutA (some ad) c (a + 2)) 2 (c - (a + 2)) _ _ ((HX.out.below (HB2.out _ _)).sub (a + 2) 2 (by have := HQ.out; omega)) (by omega)).mono ?_; rintro e w8 ⟨rfl, rfl⟩; rw [HSZ.out]))
            refine bodyPost_ret (v := .tuple #[.agg #[.slice (cutA (some ad) c (a + 4)) L (c - (a + 4)), .slice none 0 0, .int .i64 0, .int .i64 0], .int .i64 (-1)]) (by simp [results, Tryz.results58, asAddr, hD]) rfl ?_
            refine ⟨⟨(cutA (some ad) c (a + 4), L, c - (a + 4)), (none, 0, 0), 0, 0⟩, -1, rfl, ?_, HB2.out _ _⟩
            unfold oneIR
            rw [HM.out]
          case pos =>
            have d3 : decide ((n : Int) < (a : Int) + 4 + (L : Int) + (J : Int)) = false := decide_eq_false (by omega)
            have d3' : ¬ (n : Int) < (a : Int) + 4 + (L : Int) + (J : Int) := by omega
            have HQ4 := Aside0.mk q4
            have s3 : ∀ W : World, (Instr.slice 22 (.slice (some ad) n c) (some (.int .i64 ((a : Int) + 4 + (L : Int)))) (some (.int .i64 ((a : Int) + 4 + (L : Int) + (J : Int)))) none).run Tryz.prog W = .ok (.slice (cutA (some ad) c (a + 4 + L)) J (c - (a + 4 + L))) W := fun W => by
              have h := sl8_lh W (some ad) n c .i64 .i64 ((a : Int) + 4 + (L : Int)) ((a : Int) + 4 + (L : Int) + (J : Int)) (by omega) (by omega) (by omega)
              rw [show ((a : Int) + 4 + (L : Int)).toNat = a + 4 + L by omega, show ((a : Int) + 4 + (L : Int) + (J : Int)).toNat - (a + 4 + L) = J by omega] at h
              exact h
            obtain ⟨nm, hnm⟩ : ∃ x, nm7 ((X.drop (a + 4 + L)).take J) = x := ⟨_, rfl⟩
            have HNM := Aside0.mk hnm
            by_cases q6 : nm = 0
            case pos =>
              have HM := Aside0.mk (show oneI X g a = none by
                unfold oneI
                rw [HN.out, HL.out.1, HL.out.2.1, HS.out, HF.out, if_pos HQ.out, if_neg q3, if_neg (fun h => h.2.2 (by rw [hnm]; exact q6))])
              subst q6
              clear q3 q4 q5 hnm
              go_enter Tryz.func58, Tryz.ntmps58
              go_wp2_with (first | (go_at_call 56; refine (cI _).mono ?_; rintro e w9 ⟨rfl, rfl⟩) | (go_at_call 55; first | ((with_reducible refine (number7_any (cutA (some ad) c (a + 2)) 2 (c - (a + 2)) _ _ ((HX.out.below (HB2.out _ _)).sub (a + 2) 2 (by have := HQ.out; omega)) (by omega)).mono ?_); rintro e w8 ⟨rfl, rfl⟩; rw [HSZ.out]) | (refine (number7_any _ _ _ _ _ ((HX.out.below (HB2.out _ _)).sub (a + 4 + L) J (by have := HQ4.out; omega)) (by omega)).mono ?_; rintro e w7 ⟨rfl, rfl⟩; rw [HNM.out])))
              refine bodyPost_ret (v := .tuple #[.agg #[.slice (cutA (some ad) c (a + 4)) L (c - (a + 4)), .slice none 0 0, .int .i64 (S : Int), .int .i64 0], .int .i64 (-1)]) (by simp [results, Tryz.results58, asAddr, hD]) rfl ?_
              refine ⟨⟨(cutA (some ad) c (a + 4), L, c - (a + 4)), (none, 0, 0), (S : Int), 0⟩, -1, rfl, ?_, HB2.out _ _⟩
              unfold oneIR
              rw [HM.out]
            case neg =>
              have f2 : (nm == 0) = false := beq_eq_false_iff_ne.2 q6
              have HM := Aside0.mk (show oneI X g a = some (⟨(X.drop (a + 4)).take L, [], (S : Int), nm⟩, a + 4 + L + J) by
                unfold oneI
                rw [HN.out, HL.out.1, HL.out.2.1, HS.out, HF.out, if_pos HQ.out, if_neg q3, hnm, if_pos ⟨q5, q4, q6⟩])
              clear q3 q4 q5 q6 hnm
              go_enter Tryz.func58, Tryz.ntmps58
              go_wp2_with (first | (go_at_call 56; refine (cI _).mono ?_; rintro e w9 ⟨rfl, rfl⟩) | (go_at_call 55; first | ((with_reducible refine (number7_any (cutA (some ad) c (a + 2)) 2 (c - (a + 2)) _ _ ((HX.out.below (HB2.out _ _)).sub (a + 2) 2 (by have := HQ.out; omega)) (by omega)).mono ?_); rintro e w8 ⟨rfl, rfl⟩; rw [HSZ.out]) | (refine (number7_any _ _ _ _ _ ((HX.out.below (HB2.out _ _)).sub (a + 4 + L) J (by have := HQ4.out; omega)) (by omega)).mono ?_; rintro e w7 ⟨rfl, rfl⟩; rw [HNM.out])))
              refine bodyPost_ret (v := .tuple #[.agg #[.slice (cutA (some ad) c (a + 4)) L (c - (a + 4)), .slice none 0 0, .int .i64 (S : Int), .int .i64 nm], .int .i64 ((a : Int) + 4 + (L : Int) + (J : Int))]) (by simp [results, Tryz.results58, asAddr, hD]) rfl ?_
              refine ⟨⟨(cutA (some ad) c (a + 4), L, c - (a + 4)), (none, 0, 0), (S : Int), nm⟩, (a : Int) + 4 + (L : Int) + (J : Int), rfl, ?_, HB2.out _ _⟩
              unfold oneIR
              rw [HM.out]
              exact ⟨by simp only; omega, fun W hW => ⟨hW.sub (a + 4) L (by have := HQ.out; omega), Bs.nil _ _ _ (Nat.zero_le _)⟩, rfl, rfl⟩
end Go.Proofs.YtbjfklgmbeaaoaaGreat
