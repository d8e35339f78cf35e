/- The walks of the reference's sum and seal. -/
import Derived.Test.YtenibcbodjkglaaA6
set_option linter.unusedVariables false
set_option linter.unusedSimpArgs false
namespace Go.Proofs.Ytenibcbodjkglaa
open Go.RowKit

def flipF (l : List Bool) : Nat → List Bool
  | 0 => l
  | k + 1 => flipAt (flipF l k) k
theorem flipF_length (l : List Bool) (k : Nat) : (flipF l k).length = l.length := by
  induction k with
  | zero => rfl
  | succ k ih => rw [flipF, flipAt_length, ih]
def numP (l : List Bool) : Nat → Int
  | 0 => 0
  | m + 1 => if l.getD (31 - m) false = true then numP l m * 2 % 4294967296 else (numP l m * 2 % 4294967296 + 1) % 4294967296
theorem numP_range (l : List Bool) (m : Nat) : 0 ≤ numP l m ∧ numP l m ≤ 4294967295 := by
  cases m with
  | zero => simp [numP]
  | succ m => simp only [numP]; split <;> omega
/-- What the reference's sum is. -/
def refOf (xs : List UInt8) : Int := numP (restL (flipF (bitsL xs ++ List.replicate 32 false) 32)) 32
theorem restL_length (l : List Bool) (h : 32 ≤ l.length) : (restL l).length = 32 := by
  unfold restL
  split
  · rw [List.length_drop, divR_length]; omega
  · omega

theorem rrest32_any (b : Nat) (A : Option Addr) (n c : Nat) (l : List Bool) (w : World) (hb : Obl w b A n c l) (hn : n ≤ 1000000) (h32 : 32 ≤ n) :
    Calls Try.prog 60 #[.slice A n c] w fun e w' => ∃ ad c', e = .returned (.slice (some ad) 32 c') ∧ (∀ j, j < 32 → w'.cell? (ad.add j) = some (.bool ((restL l).getD j false))) ∧ Below w.heap.size w w' := by
  refine (rrest_any b A n c l w hb hn).mono ?_
  rintro e w1 ⟨A1, c1, rfl, hr, hB⟩
  have hl := restL_length l (by rw [hb.len]; exact h32)
  rw [hl] at hr ⊢
  obtain ⟨ad, rfl, _⟩ := hr 0 (by omega)
  refine ⟨ad, c1, rfl, fun j hj => ?_, hB⟩
  obtain ⟨ad', he, hc⟩ := hr j hj
  injection he with he
  subst he
  exact hc

set_option maxHeartbeats 4000000 in
set_option maxRecDepth 100000 in
theorem rof_any (A : Option Addr) (n c : Nat) (xs : List UInt8) (w : World) (hb : Bs w A n c xs) (hn : n ≤ 100000) :
    Calls Try.prog 51 #[.slice A n c] w fun e w' => e = .returned (.int .u32 (refOf xs)) ∧ Below w.heap.size w w' := by
  have hlen := Aside0.mk hb.len
  go_enter Try.func51, Try.ntmps51
  go_wp2_with (go_at_call 59; refine (rbits_any A n c xs _ hb hn).mono ?_; rintro e w1 ⟨A1, c1, rfl, hO1, hB1⟩)
  have hO1' := Aside0.mk hO1
  have hB1' := Aside0.mk hB1
  clear hO1 hB1 hb
  go_loopg [3, 4] 32 (fun k v i wr => ∃ (j : Nat) (A2 : Option Addr) (c2 : Nat), Aside (k + j = 32) ∧ i = .int .i64 (j : Int) ∧ v = .slice A2 (8 * n + j) c2 ∧ Aside0 (Obl wr w.heap.size A2 (8 * n + j) c2 (bitsL xs ++ List.replicate j false)) ∧ Aside0 (Below w.heap.size w wr))
  case atStart => exact ⟨0, A1, c1, rfl, rfl, rfl, by simpa using hO1', hB1'⟩
  case round =>
    obtain ⟨j, A2, c2, hk, rfl, rfl, hO, hB⟩ := hrel
    have hjb : j ≤ 32 := by have := hk.out; omega
    by_cases hlt : j < 32
    · go_wp2_with (at_builtin; (refine wpl_appb (w0 := w) w.heap.size rfl _ _ rfl _ _ _ _ _ rfl rfl hO.out hB.out (by have := hB.out.size; omega) (by omega) ?_); intro A3 c3 w3 hO3 hB3)
      go_roundg (32 - (j + 1))
      case measure => have := hk.out; omega
      case rel =>
        refine ⟨j + 1, A3, c3, by exact (show 32 - (j + 1) + (j + 1) = 32 by omega), by go_num, rfl, ⟨?_⟩, ⟨hB3⟩⟩
        rw [List.append_assoc, ← List.replicate_succ'] at hO3
        exact hO3
    · obtain rfl : j = 32 := by omega
      go_wp2_with fail
      have hlb := Aside0.mk (hO.out.len)
      go_loopg [5] 32 (fun k i wq => ∃ q : Nat, Aside (k + q = 32) ∧ i = .int .i64 (q : Int) ∧ Aside0 (Obl wq w.heap.size A2 (8 * n + 32) c2 (flipF (bitsL xs ++ List.replicate 32 false) q)) ∧ Aside0 (Below w.heap.size w wq))
      case atStart => exact ⟨0, rfl, rfl, hO, hB⟩
      case round =>
        obtain ⟨q, hq, rfl, hO, hB⟩ := hrel
        have hqb : q ≤ 32 := by have := hq.out; omega
        by_cases hlq : q < 32
        · obtain ⟨g, rfl, hg1, hg2, hx, hf⟩ := hO.out.at_ q (by omega)
          have hqi : (q : Int) < ((8 * n + 32 : Nat) : Int) := by omega
          go_wp2_with fail
          go_roundg (32 - (q + 1))
          case measure => have := hq.out; omega
          case rel =>
            refine ⟨q + 1, by exact (show 32 - (q + 1) + (q + 1) = 32 by omega), by go_num, ⟨?_⟩, ⟨hB.out.setCell (p := ⟨g, q, none⟩) hg1 _⟩⟩
            rw [flipF]
            exact hO.out.store _ _
        · obtain rfl : q = 32 := by omega
          have hdf : Aside0 (refOf xs = numP (restL (flipF (bitsL xs ++ List.replicate 32 false) 32)) 32) := ⟨rfl⟩
          generalize flipF (bitsL xs ++ List.replicate 32 false) 32 = L at hO hdf
          go_wp2_with (go_at_call 60; refine (rrest32_any w.heap.size A2 _ c2 _ _ hO.out (by omega) (by omega)).mono ?_; rintro e w4 ⟨ad4, c4, rfl, hr4, hB4⟩)
          have hB5 := Aside0.mk (below_then hB.out hB.out.size hB4)
          have hr5 := Aside0.mk hr4
          clear hr4 hB4 hB hO
          go_loop [6, 7] (fun v i => ∃ m : Nat, m ≤ 32 ∧ i = .int .i64 (31 - (m : Int)) ∧ v = .int .u32 (numP (restL L) m)) (fun _ i => (intOf i + 1).toNat)
          case atStart => exact ⟨0, by omega, rfl, rfl⟩
          case round =>
            obtain ⟨m, hm, rfl, rfl⟩ := hrel
            obtain ⟨n0, n1⟩ := numP_range (restL L) m
            by_cases hlm : m < 32
            · have hx := hr5.out (31 - m) (by omega)
              have hi0 : 0 ≤ 31 - (m : Int) := by omega
              have hi1 : 31 - (m : Int) < 32 := by omega
              have hit : (31 - (m : Int)).toNat = 31 - m := by omega
              cases hbit : (restL L).getD (31 - m) false with
              | false =>
                rw [hbit] at hx
                have hnp : Aside0 (numP (restL L) (m + 1) = (numP (restL L) m * 2 % 4294967296 + 1) % 4294967296) := ⟨by rw [numP, hbit, if_neg (by simp)]⟩
                clear hbit
                go_wp2
                go_round
                case rel => exact ⟨m + 1, by omega, congrArg (Value.int .i64) (by omega), congrArg (Value.int .u32) (by rw [hnp.out]; try omega)⟩
                case measure => simp [intOf]; omega
              | true =>
                rw [hbit] at hx
                have hnp : Aside0 (numP (restL L) (m + 1) = numP (restL L) m * 2 % 4294967296) := ⟨by rw [numP, hbit, if_pos rfl]⟩
                clear hbit
                go_wp2
                go_round
                case rel => exact ⟨m + 1, by omega, congrArg (Value.int .i64) (by omega), congrArg (Value.int .u32) (by rw [hnp.out]; try omega)⟩
                case measure => simp [intOf]; omega
            · obtain rfl : m = 32 := by omega
              go_wp2
              go_ret
              exact ⟨ret_int hdf.out.symm, hB5.out⟩
/-- The reference's seal. -/
def rsum4 (xs : List UInt8) (a : Nat) (s : Int) : List UInt8 := (((xs.set a (byt8 s)).set (a + 1) (byt8 (s / 256))).set (a + 2) (byt8 (s / 65536))).set (a + 3) (byt8 (s / 16777216))
def rsealB (xs : List UInt8) (a : Int) : List UInt8 := if 0 ≤ a ∧ a ≤ (xs.length : Int) - 4 then rsum4 xs a.toNat (refOf (xs.take a.toNat ++ xs.drop (a.toNat + 4))) else xs
theorem refOf_range (xs : List UInt8) : 0 ≤ refOf xs ∧ refOf xs ≤ 4294967295 := numP_range _ _
set_option maxHeartbeats 4000000 in
set_option maxRecDepth 100000 in
theorem rseal_any (A : Option Addr) (n c : Nat) (xs : List UInt8) (a : Int) (w : World) (hb : Bs w A n c xs) (hn : n ≤ 100000) :
    Calls Try.prog 35 #[.slice A n c, .int .i64 a] w fun e w' => ∃ A' c', e = .returned (.slice A' n c') ∧ Ow w' w.heap.size A' n c' (rsealB xs a) ∧ Below w.heap.size w w' := by
  have hlim := hb.lim
  have hlen := hb.len
  have hcap := hb.le
  have HL := Aside0.mk (Ow.lit0 w w.heap.size w.heap.size rfl (Nat.le_refl _))
  by_cases hP : 0 ≤ a ∧ a ≤ (n : Int) - 4
  · obtain ⟨a, rfl⟩ := Int.eq_ofNat_of_zero_le hP.1
    have ha : a + 4 ≤ n := by omega
    have hneg : decide ((a : Int) < 0) = false := decide_eq_false (by omega)
    have hgt : decide ((n : Int) - 4 < (a : Int)) = false := decide_eq_false (by omega)
    have hS : rsealB xs a = rsum4 xs a (refOf (xs.take a ++ xs.drop (a + 4))) := by unfold rsealB; rw [if_pos (by omega)]; rfl
    have hS' := Aside0.mk hS
    have hb' := Aside0.mk hb
    have s1 := fun W => sl8_h W A n c .i64 (a : Int) (by omega) (by omega)
    have s2 := fun W => sl8_l W A n c .i64 ((a : Int) + 4) (by omega) (by omega)
    have e2 : ((a : Int) + 4).toNat = a + 4 := by omega
    simp only [Int.toNat_natCast, e2] at s1 s2
    clear hS hP hlen e2
    go_enter Try.func35, Try.ntmps35
    go_wp2_with (first | (at_builtin; refine wpl_a8 (w0 := w) w.heap.size rfl (.tmp 9) (.tmp 10) rfl _ 0 0 [] A n c xs n xs rfl rfl HL.out (hb'.out.alloc _) ((Below.refl _ _).alloc (Nat.le_refl _) _) (by simp) (by omega) (by omega) rfl ?_; clear HL hb; intro A2 c2 w1 hO1 hB1; (have HL2 := Aside0.mk (Ow.lit0 w1 w1.heap.size w1.heap.size rfl (Nat.le_refl _))); (have hb1 := Aside0.mk (hb'.out.below hB1.out))) | (at_builtin; refine wpl_a8 (w0 := w1) w1.heap.size rfl (.tmp 22) (.tmp 25) rfl _ 0 0 [] A a c (xs.take a) a _ rfl rfl HL2.out ((hb1.out.take a (by omega)).alloc _) ((Below.refl _ _).alloc (Nat.le_refl _) _) (by simp) (by omega) (by omega) rfl ?_; clear HL2; intro A3 c3 w2 hO2 hB2) | (at_builtin; refine wpl_a8 (w0 := w1) w1.heap.size rfl (.tmp 27) (.tmp 31) rfl A3 _ c3 _ _ _ _ _ (n - 4) _ rfl rfl hO2.out ((hb1.out.drop (a + 4) (by omega)).below hB2.out) hB2.out hB2.out.size (by omega) (by omega) rfl ?_; clear hO2 hB2; intro A4 c4 w3 hO3 hB3) | (go_at_call 51; refine (rof_any _ _ _ _ _ hO3.out.bs (by omega)).mono ?_; rintro e w4 ⟨rfl, hB4⟩; replace hB4 := Aside0.mk hB4))
    have hB14 := below_then hB1.out hB1.out.size (below_then hB3.out hB3.out.size hB4.out)
    have hO4 := (hO1.out.below hB3.out).below hB4.out
    obtain ⟨g, rfl, hg1, hg2, hfz⟩ := hO4.head (by omega)
    have hcell : ∀ j, j < n → w4.cell? ⟨g, j, none⟩ = some (.int .u8 (b8 xs j)) := fun j hj => by
      obtain ⟨ad, he, hc⟩ := hO4.bs.atN j hj
      injection he with he
      subst he
      rwa [add_plain] at hc
    have k0 := hcell a (by omega)
    have k1 := hcell (a + 1) (by omega)
    have k2 := hcell (a + 2) (by omega)
    have k3 := hcell (a + 3) (by omega)
    have f0 := hfz a
    have f1 := hfz (a + 1)
    have f2 := hfz (a + 2)
    have f3 := hfz (a + 3)
    have HO4 := Aside0.mk hO4
    have HB4 := Aside0.mk hB14
    obtain ⟨hs0, hs1⟩ := refOf_range (xs.take a ++ xs.drop (a + 4))
    generalize refOf (xs.take a ++ xs.drop (a + 4)) = s at hs0 hs1 hS' ⊢
    clear hO4 hcell hfz hB14
    go_wp2_with (first | (with_reducible refine wp_loop_rounds 5 ?_) | (with_reducible rw [rounds_succ]))
    go_ret
    refine ⟨some ⟨g, 0, none⟩, c2, rfl, ?_, ?_⟩
    · have e0 : s % 256 = ((byt8 s).toNat : Int) := (byt8_toNat _ hs0).symm
      have e1 : s / 256 % 256 = ((byt8 (s / 256)).toNat : Int) := (byt8_toNat _ (by omega)).symm
      have e2 : s / 256 / 256 % 256 = ((byt8 (s / 65536)).toNat : Int) := by rw [byt8_toNat _ (by omega)]; omega
      have e3 : s / 256 / 256 / 256 % 256 = ((byt8 (s / 16777216)).toNat : Int) := by rw [byt8_toNat _ (by omega)]; omega
      rw [e0, e1, e2, e3, hS'.out]
      exact (((HO4.out.store a _).store (a + 1) _).store (a + 2) _).store (a + 3) _
    · exact (((HB4.out.setCell hg1 _).setCell hg1 _).setCell hg1 _).setCell hg1 _
  · have hS : rsealB xs a = xs := by unfold rsealB; rw [hlen, if_neg hP]
    have hS' := Aside0.mk hS
    have hb' := Aside0.mk hb
    clear hS hlen
    by_cases hneg : a < 0
    · have hneg' : decide (a < 0) = true := decide_eq_true hneg
      clear hP hneg
      go_enter Try.func35, Try.ntmps35
      go_wp2_with (at_builtin; refine wpl_a8 (w0 := w) w.heap.size rfl (.tmp 9) (.tmp 10) rfl _ 0 0 [] A n c xs n xs rfl rfl HL.out (hb'.out.alloc _) ((Below.refl _ _).alloc (Nat.le_refl _) _) (by simp) (by omega) (by omega) rfl ?_; clear HL hb; intro A2 c2 w1 hO1 hB1)
      go_ret
      exact ⟨A2, c2, rfl, by rw [hS'.out]; exact hO1.out, hB1.out⟩
    · have hneg' : decide (a < 0) = false := decide_eq_false hneg
      have hgt : decide ((n : Int) - 4 < a) = true := decide_eq_true (by omega)
      clear hP hneg
      go_enter Try.func35, Try.ntmps35
      go_wp2_with (at_builtin; refine wpl_a8 (w0 := w) w.heap.size rfl (.tmp 9) (.tmp 10) rfl _ 0 0 [] A n c xs n xs rfl rfl HL.out (hb'.out.alloc _) ((Below.refl _ _).alloc (Nat.le_refl _) _) (by simp) (by omega) (by omega) rfl ?_; clear HL hb; intro A2 c2 w1 hO1 hB1)
      go_ret
      exact ⟨A2, c2, rfl, by rw [hS'.out]; exact hO1.out, hB1.out⟩

end Go.Proofs.Ytenibcbodjkglaa
