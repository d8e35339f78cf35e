/- The walks of crc.Seal and crc.Sealed. -/
import Derived.Test.YtenibcbodjkglaaA3
set_option linter.unusedVariables false
set_option linter.unusedSimpArgs false
namespace Go.Proofs.Ytenibcbodjkglaa
open Go.RowKit

/-- The sum of all but four bytes. -/
def othI (xs : List UInt8) (a : Nat) : Int := updI (updI 0 (xs.take a)) (xs.drop (a + 4))
theorem updI_range (s : Int) (xs : List UInt8) : 0 ≤ updI s xs ∧ updI s xs ≤ 4294967295 := bits32_range _ _ _
def byt8 (n : Int) : UInt8 := UInt8.ofNat n.toNat
theorem byt8_toNat (n : Int) (h : 0 ≤ n) : ((byt8 n).toNat : Int) = n % 256 := by
  unfold byt8
  simp
  omega
def sum4 (xs : List UInt8) (a : Nat) (s : Int) : List UInt8 := (((xs.set a (byt8 s)).set (a + 1) (byt8 (s / 256))).set (a + 2) (byt8 (s / 65536))).set (a + 3) (byt8 (s / 16777216))
def sealB (xs : List UInt8) (a : Int) : List UInt8 := if 0 ≤ a ∧ a ≤ (xs.length : Int) - 4 then sum4 xs a.toNat (othI xs a.toNat) else xs

set_option maxHeartbeats 1000000 in
theorem seal_any (A : Option Addr) (n c : Nat) (xs : List UInt8) (a : Int) (w : World) (hb : Bs w A n c xs) :
    Calls Try.prog 32 #[.slice A n c, .int .i64 a] w fun e w' => ∃ A' c', e = .returned (.slice A' n c') ∧ Ow w' w.heap.size A' n c' (sealB xs a) ∧ Below w.heap.size w w' := by
  have hlim := hb.lim
  have hlen := hb.len
  by_cases hP : 0 ≤ a ∧ a ≤ (n : Int) - 4
  · obtain ⟨a, rfl⟩ := Int.eq_ofNat_of_zero_le hP.1
    have hd : decide (0 ≤ (a : Int) ∧ (a : Int) ≤ (n : Int) - 4) = true := decide_eq_true hP
    have ha : a + 4 ≤ n := by omega
    have hS : sealB xs a = sum4 xs a (othI xs a) := by unfold sealB; rw [if_pos (by omega)]; rfl
    have hS' := Aside0.mk hS
    clear hS hP hlen
    go_enter Try.func32, Try.ntmps32
    go_wp2_with (go_at_call 47; refine (clone8_any A n c xs _ hb).mono ?_; rintro e w1 ⟨A1, c1, rfl, hO1, hB1⟩)
    have HO1 := Aside0.mk hO1
    clear hO1
    go_wp2_with (first | (go_at_call 48; refine (has_any A n c _ _ hlim).mono ?_; rintro e w2 ⟨rfl, rfl⟩) | (go_at_call 49; refine (others_any A n c xs a _ (hb.below hB1) ha).mono ?_; rintro e w3 ⟨rfl, hB3⟩))
    have hO3 := HO1.out.below hB3
    obtain ⟨g, rfl, hg1, hg2, hfz⟩ := hO3.head (by omega)
    have hcell : ∀ j, j < n → w3.cell? ⟨g, j, none⟩ = some (.int .u8 (b8 xs j)) := fun j hj => by
      obtain ⟨ad, he, hc⟩ := hO3.bs.atN j hj
      injection he with he
      subst he
      rwa [add_plain] at hc
    have k0 := hcell a (by omega)
    have k1 := hcell (a + 1) (by omega)
    have k2 := hcell (a + 2) (by omega)
    have k3 := hcell (a + 3) (by omega)
    have f0 := hfz a
    have f1 := hfz (a + 1)
    have f2 := hfz (a + 2)
    have f3 := hfz (a + 3)
    have HO3 := Aside0.mk hO3
    clear hO3 hcell hfz
    generalize hsum : updI (updI 0 (List.take a xs)) (List.drop (a + 4) xs) = s
    have hs := updI_range (updI 0 (List.take a xs)) (List.drop (a + 4) xs)
    rw [hsum] at hs
    have hsum' := Aside0.mk hsum
    clear hsum
    obtain ⟨hs0, hs1⟩ := hs
    go_wp2_with (first | (with_reducible refine wp_loop_rounds 5 ?_) | (with_reducible rw [rounds_succ]))
    go_ret
    refine ⟨some ⟨g, 0, none⟩, c1, rfl, ?_, ?_⟩
    · have e0 : s % 256 = ((byt8 s).toNat : Int) := (byt8_toNat _ hs0).symm
      have e1 : s / 256 % 256 = ((byt8 (s / 256)).toNat : Int) := (byt8_toNat _ (by omega)).symm
      have e2 : s / 65536 % 256 = ((byt8 (s / 65536)).toNat : Int) := (byt8_toNat _ (by omega)).symm
      have e3 : s / 16777216 = ((byt8 (s / 16777216)).toNat : Int) := by rw [byt8_toNat _ (by omega)]; omega
      rw [e0, e1, e2, e3, hS'.out, show othI xs a = s from hsum'.out]
      exact (((HO3.out.store a _).store (a + 1) _).store (a + 2) _).store (a + 3) _
    · exact ((((hB1.trans (hB3.mono hB1.size)).setCell hg1 _).setCell hg1 _).setCell hg1 _).setCell hg1 _
  · have hd : decide (0 ≤ a ∧ a ≤ (n : Int) - 4) = false := decide_eq_false hP
    have hS : sealB xs a = xs := by unfold sealB; rw [hlen, if_neg hP]
    have hS' := Aside0.mk hS
    clear hS hlen
    go_enter Try.func32, Try.ntmps32
    go_wp2_with (go_at_call 47; refine (clone8_any A n c xs _ hb).mono ?_; rintro e w1 ⟨A1, c1, rfl, hO1, hB1⟩)
    have HO1 := Aside0.mk hO1
    clear hO1
    go_wp2_with (go_at_call 48; refine (has_any A n c _ _ hlim).mono ?_; rintro e w2 ⟨rfl, rfl⟩)
    go_ret
    exact ⟨A1, c1, rfl, by rw [hS'.out]; exact HO1.out, hB1⟩
theorem sealB_length (xs : List UInt8) (a : Int) : (sealB xs a).length = xs.length := by
  unfold sealB sum4
  split <;> simp

set_option maxHeartbeats 1000000 in
theorem sealed_any (A : Option Addr) (n c : Nat) (xs : List UInt8) (a : Int) (w : World) (hb : Bs w A n c xs) :
    Calls Try.prog 40 #[.slice A n c, .int .i64 a] w fun e w' => e = .returned (.bool (decide (0 ≤ a ∧ a ≤ (n : Int) - 4) && sealB xs a == xs)) ∧ Below w.heap.size w w' := by
  have hlim := hb.lim
  by_cases hP : 0 ≤ a ∧ a ≤ (n : Int) - 4
  · have hd : decide (0 ≤ a ∧ a ≤ (n : Int) - 4) = true := decide_eq_true hP
    clear hP
    go_enter Try.func40, Try.ntmps40
    go_wp2_with (first | (go_at_call 48; refine (has_any A n c _ _ hlim).mono ?_; rintro e w2 ⟨rfl, rfl⟩) | (go_at_call 32; refine (seal_any A n c xs _ _ hb).mono ?_; rintro e w3 ⟨A3, c3, rfl, hO3, hB3⟩) | (go_at_call 53; refine (sequal8_any _ _ _ _ _ _ _ _ _ hO3.bs (hb.below hB3)).mono ?_; rintro e w4 ⟨rfl, m, rfl⟩))
    go_ret
    exact ⟨ret_bool (by rw [hd, Bool.true_and]), below_drawn hB3 m⟩
  · have hd : decide (0 ≤ a ∧ a ≤ (n : Int) - 4) = false := decide_eq_false hP
    clear hP
    go_enter Try.func40, Try.ntmps40
    go_wp2_with (go_at_call 48; refine (has_any A n c _ _ hlim).mono ?_; rintro e w2 ⟨rfl, rfl⟩)
    go_ret
    exact ⟨ret_bool (by rw [hd, Bool.false_and]), Below.refl _ _⟩

end Go.Proofs.Ytenibcbodjkglaa
