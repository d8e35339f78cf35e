/- The law OverDecodes. -/
import Derived.Test.YtbjfklgmbeaaoaaVA
set_option linter.unusedVariables false
set_option linter.unusedSimpArgs false
namespace Go.Proofs.Ytbjfklgmbeaaoaa
open Go.RowKit

theorem tbox_row {T k : Nat} {W : World} (h : TBox T k W) (hk : k ≤ 20) : W.heap[T]? = some (.cells #[.int .i64 (k : Int)] 3) := by
  unfold TBox at h
  rw [h, IntWalk.i64_in _ (by omega)]
/-- What stands after Decode was asked. -/
structure AD (w : World) (T : Nat) (A : Option Addr) (n c : Nat) (im : List UInt8) (A1 : Option Addr) (nv c1 : Nat) (vv : List UInt8) (b : Nat) (A2 : Option Addr) (nz c2 : Nat) (zz : List Int) (k : Nat) (W : World) : Prop where
  bel : Below w.heap.size w W
  im : Bs W A n c im
  v : Bs W A1 nv c1 vv
  z : Oc W b 3 1 A2 nz c2 (iv zz)
  bx : W.heap[T]? = some (.cells #[.int .i64 (k : Int)] 3)
theorem AD.below {w W W1 : World} {T n c nv c1 b nz c2 k : Nat} {A A1 A2 : Option Addr} {im vv : List UInt8} {zz : List Int} (h : AD w T A n c im A1 nv c1 vv b A2 nz c2 zz k W) (hB : Below W.heap.size W W1) : AD w T A n c im A1 nv c1 vv b A2 nz c2 zz k W1 :=
  ⟨below_then h.bel h.bel.size hB, h.im.below hB, h.v.below hB, h.z.below hB, (hB.block T (Array.getElem?_eq_some_iff.1 h.bx).1).trans h.bx⟩
theorem AD.cell {w W : World} {T n c nv c1 b nz c2 k : Nat} {A A1 A2 : Option Addr} {im vv : List UInt8} {zz : List Int} (h : AD w T A n c im A1 nv c1 vv b A2 nz c2 zz k W) : W.cell? ⟨T, 0, none⟩ = some (.int .i64 (k : Int)) := by
  rw [cell_of_row _ _ _ _ _ _ h.bx]
  rfl
set_option maxHeartbeats 8000000 in
set_option maxRecDepth 100000 in
theorem overDecodesLaw_any (A : Option Addr) (n c : Nat) (im : List UInt8) (id size : Int) (w : World) (hb : Bs w A n c im) (hid : -9223372036854775808 ≤ id ∧ id ≤ 9223372036854775807) (hsz : -9223372036854775808 ≤ size ∧ size ≤ 9223372036854775807) :
    Calls Try.prog 4 #[.slice A n c, .int .i64 id, .int .i64 size] w fun e w' => e = .returned (.bool true) ∧ Below w.heap.size w w' := by
  by_cases h0 : 6000 < n
  · have d0 : decide (6000 < (n : Int)) = true := decide_eq_true (by omega)
    have d0' : decide (6000 < n) = true := decide_eq_true h0
    clear hb
    go_enter Try.func4, Try.ntmps4
    go_wp2_with (go_at_call 12; refine (alive08_any _).mono ?_; rintro e w2 ⟨rfl, hB⟩; (have H2 := Aside0.mk hB); clear hB)
    go_ret
    exact ⟨rfl, H2.out⟩
  · have d0 : decide (6000 < (n : Int)) = false := decide_eq_false (by omega)
    have d0' : decide (6000 < n) = false := decide_eq_false h0
    have hl := hb.len
    have HB := Aside0.mk hb
    clear hb
    go_enter Try.func4, Try.ntmps4
    go_upto_region 4 with fail
    obtain ⟨w1, hw1⟩ : ∃ X, w.alloc (.cells #[.int .i64 0] 3) = X := ⟨_, rfl⟩
    obtain ⟨T, hT⟩ : ∃ X, w.heap.size = X := ⟨_, rfl⟩
    have hB1 := (Below.refl _ w).alloc (Nat.le_refl _) (.cells #[.int .i64 0] 3)
    have hr1 := heap_alloc_new w (.cells #[.int .i64 0] 3)
    have hs1 : w1.heap.size = w.heap.size + 1 := by rw [← hw1]; simp
    rw [hw1] at hB1 hr1
    rw [hT] at hr1 hs1
    rw [hw1, hT]
    have hnb : ∀ ad, A = some ad → 0 < n → ad.block ≠ T := fun ad e h => by
      have := HB.out.lt ad e h
      omega
    have hB2 := ((Below.refl _ w1).alloc (Nat.le_refl _) (.cells #[.slice A n c] 27)).alloc (by simp) (.cells #[.pointer (some ⟨T, 0, none⟩)] 35)
    obtain ⟨w2, hw2⟩ : ∃ X, (w1.alloc (.cells #[.slice A n c] 27)).alloc (.cells #[.pointer (some ⟨T, 0, none⟩)] 35) = X := ⟨_, rfl⟩
    have hp1 := heap_alloc_new (w1.alloc (.cells #[.slice A n c] 27)) (.cells #[.pointer (some ⟨T, 0, none⟩)] 35)
    have hp2 := (Below.heap_alloc (w1.alloc (.cells #[.slice A n c] 27)) (.cells #[.pointer (some ⟨T, 0, none⟩)] 35) w1.heap.size (by simp)).trans (heap_alloc_new w1 (.cells #[.slice A n c] 27))
    rw [show (w1.alloc (.cells #[.slice A n c] 27)).heap.size = w1.heap.size + 1 by simp] at hp1
    rw [hw2] at hB2 hp1 hp2
    have hT2 : TBox T 0 w2 := (hB2.block T (by omega)).trans hr1
    have hB12 := below_then hB1 hB1.size hB2
    have hrd := im_rdr (w1.heap.size + 1) w1.heap.size T A n c im w2 (by have := hB2.size; omega) hp1 hp2 (HB.out.below hB12) (by omega) (by omega) (by omega) hnb
    have hcall := odecode_any hrd 0 id size w2 (OnlyB.refl _ _) hT2 hid hsz
    obtain ⟨gv, hgv⟩ : ∃ x, odG (imR im) id size = x := ⟨_, rfl⟩
    obtain ⟨vv, hvv⟩ : ∃ x, odV (imR im) id size = x := ⟨_, rfl⟩
    obtain ⟨zz, hzz⟩ : ∃ x, odZ (imR im) id size = x := ⟨_, rfl⟩
    obtain ⟨ee, hee⟩ : ∃ x, odE (imR im) id size = x := ⟨_, rfl⟩
    obtain ⟨nv, hnv⟩ : ∃ x, vv.length = x := ⟨_, rfl⟩
    obtain ⟨nz, hnz⟩ : ∃ x, zz.length = x := ⟨_, rfl⟩
    unfold DecPost at hcall
    rw [hgv, hvv, hzz, hee, hnv, hnz] at hcall
    have HE := Aside0.mk (And.intro hgv (And.intro hvv (And.intro hzz (And.intro hee (And.intro hnv hnz)))))
    have HW := Aside0.mk (And.intro hB12 (And.intro hw2 (And.intro hs1 (And.intro hT hnb))))
    clear hgv hvv hzz hee hnv hnz hrd hp1 hp2 hT2 hB12 hB2 hB1 hr1 hs1 hw1 hw2 hnb
    go_upto_region 5 with (first
      | (go_at_call 17; refine (reader_any A n c T w1).mono ?_; rintro e w3 ⟨rfl, rfl⟩; rw [HW.out.2.1])
      | (go_at_call 16; go_loud (refine hcall.mono ?_); rintro e w3 ⟨A1, c1, A2, c2, k', rfl, hO, hI, hx, hk, ho⟩; go_loud (have H3 := Aside0.mk (show AD w T A n c im A1 nv c1 vv w2.heap.size A2 nz c2 zz k' w3 ∧ k' ≤ 20 from ⟨⟨ho.below HW.out.1 (by rw [HW.out.2.2.2.1]; exact Nat.le_refl _) (Nat.le_refl _), (HB.out.below HW.out.1).only ho HW.out.2.2.2.2, hO.bs, hI, tbox_row hx (by omega)⟩, by omega⟩)); clear hO hI hx hk ho))
    clear hcall hT
    cases hp : pgI im id with
    | none =>
      have HP := Aside0.mk hp
      have h11 := imE_none hp
      have hee : ee = 11 := by rw [← HE.out.2.2.2.1]; unfold odE; rw [show (imR im).e id 1 = 11 from h11, if_neg (by decide)]
      have hgv : gv = 0 := by rw [← HE.out.1]; unfold odG; rw [HE.out.2.2.2.1, hee, if_neg (by decide)]
      have hnv : nv = 0 := by rw [← HE.out.2.2.2.2.1, ← HE.out.2.1]; unfold odV; rw [HE.out.2.2.2.1, hee, if_neg (by decide)]; rfl
      have hnz : nz = 0 := by rw [← HE.out.2.2.2.2.2, ← HE.out.2.2.1]; unfold odZ; rw [HE.out.2.2.2.1, hee, if_neg (by decide)]; rfl
      clear HE hp h11
      subst hee hgv hnv hnz
      go_wp2_with (first
        | (go_at_call 18; refine (rPage_any A n c im id w3 H3.out.1.im (by omega)).mono ?_; rintro e w4 ⟨A4, c4, rfl, hb4, rfl⟩; rw [HP.out]; clear hb4)
        | (go_at_call 12; refine (alive08_any _).mono ?_; rintro e w5 ⟨rfl, hB⟩; (have H5 := Aside0.mk (below_then H3.out.1.bel H3.out.1.bel.size hB)); clear hB))
      go_ret
      exact ⟨rfl, H5.out⟩
    | some q =>
      have HP := Aside0.mk (And.intro hp (pgI_in hp).2.2.1)
      have h0e := imE_one hp
      have HI := Aside0.mk (dec_iff (size := size) h0e.1)
      clear hp h0e
      have hk20 := H3.out.2
      have dk : decide ((k' : Int) ≤ 20) = true := decide_eq_true (by omega)
      have dk2 : decide (k' ≤ 20) = true := decide_eq_true hk20
      have cRE := fun W h => rdecode8_any A n c im id size W h (by omega) hid hsz
      by_cases hok : rdOk im id size
      case neg =>
        have hee : ee = 80 := by rw [← HE.out.2.2.2.1]; exact HI.out.1 hok
        have hgv : gv = 0 := by rw [← HE.out.1]; unfold odG; rw [HE.out.2.2.2.1, hee, if_neg (by decide)]
        have hnv : nv = 0 := by rw [← HE.out.2.2.2.2.1, ← HE.out.2.1]; unfold odV; rw [HE.out.2.2.2.1, hee, if_neg (by decide)]; rfl
        have hnz : nz = 0 := by rw [← HE.out.2.2.2.2.2, ← HE.out.2.2.1]; unfold odZ; rw [HE.out.2.2.2.1, hee, if_neg (by decide)]; rfl
        have HOK := Aside0.mk hok
        clear HE hok
        subst hee hgv hnv hnz
        go_wp2_with (first
          | (go_at_call 18; refine (rPage_any A n c im id w3 H3.out.1.im (by omega)).mono ?_; rintro e w4 ⟨A4, c4, rfl, hb4, rfl⟩; rw [HP.out.1]; clear hb4)
          | (go_at_call 19; refine (cRE w3 H3.out.1.im).mono ?_; rintro e w5 ⟨hB, hor⟩; obtain ⟨_, rfl⟩ := hor.resolve_right (fun h => HOK.out h.1); (have H5 := Aside0.mk (H3.out.1.below hB)); clear hB hor)
          | (go_at_call 12; refine (alive08_any _).mono ?_; rintro e w6 ⟨rfl, hB⟩; (have H6 := Aside0.mk (H5.out.below hB)); clear hB; have y0 := H6.out.cell))
        go_ret
        exact ⟨rfl, H6.out.bel⟩
      case pos =>
        obtain ⟨he, hg9, hv9, hz9⟩ := HI.out.2 hok
        have hee : ee = 0 := by rw [← HE.out.2.2.2.1]; exact he
        have hrg : rdG im id = gv := by rw [← HE.out.1]; exact hg9.symm
        have hrv : (rdV im (rdG im id) (rdL im id size)).take size.toNat = vv := by rw [← HE.out.2.1]; exact hv9.symm
        have hrz : rdL im id size = zz := by rw [← HE.out.2.2.1]; exact hz9.symm
        subst hee
        have HOK := Aside0.mk (And.intro hok (And.intro hrg (And.intro hrv hrz)))
        clear he hg9 hv9 hz9 hok hrg hrv hrz
        go_upto_region 11 with (first
          | (go_at_call 18; refine (rPage_any A n c im id w3 H3.out.1.im (by omega)).mono ?_; rintro e w4 ⟨A4, c4, rfl, hb4, rfl⟩; rw [HP.out.1]; clear hb4)
          | (go_at_call 19; refine (cRE w3 H3.out.1.im).mono ?_; rintro e w5 ⟨hB, hor⟩; obtain ⟨_, A5, c5, A6, c6, rfl, hb5, hz5⟩ := hor.resolve_left (fun h => h.1 HOK.out.1); (rw [HOK.out.2.2.1] at hb5); (rw [HOK.out.2.2.2, HE.out.2.2.2.2.2] at hz5); rw [HOK.out.2.1, HOK.out.2.2.2, HE.out.2.2.2.2.2]; (have H5 := Aside0.mk (And.intro (H3.out.1.below hB) (And.intro hb5 hz5))); clear hB hor hb5 hz5))
        clear cRE dk dk2
        obtain ⟨s9, hs9⟩ : ∃ x, size.toNat = x := ⟨_, rfl⟩
        rw [hs9] at H5
        rw [hs9]
        clear hs9
        have hlim := H5.out.1.z.lim
        go_wp2_with fail
        go_loopg [101] nz (fun gk v101 wr => ∃ (j : Nat), Aside (gk + j = nz) ∧ v101 = .int .i64 (j : Int) ∧ Aside0 (Below w5.heap.size w5 wr))
        case atStart => exact ⟨0, by rfl, rfl, ⟨Below.refl _ _⟩⟩
        case round =>
          obtain ⟨j, hk, rfl, hI⟩ := hrel
          have hjm : j ≤ nz := by have := hk.out; omega
          rcases Nat.lt_or_ge j nz with hlt | hge
          · have dj : decide ((j : Int) < (nz : Int)) = true := decide_eq_true (by omega)
            have djn : (j : Int) < (nz : Int) := by omega
            have wj : IntKind.i64.wrap ((j : Int) + 1) = ((j + 1 : Nat) : Int) := IntWalk.i64_in _ (by omega)
            obtain ⟨ad, z, rfl, hzj, k0⟩ := (H5.out.1.z.below hI.out).rc.int j hlt
            obtain ⟨ad', z', rfl, hzj', k00⟩ := (H5.out.2.2.below hI.out).rc.int j hlt
            obtain rfl : z = z' := by rw [hzj] at hzj'; injection hzj'
            clear hzj hzj'
            have dz : (z != z) = false := bne_self_eq_false _
            go_upto_region 16 with fail
            refine wp_region_ext (by kernel_rfl) (by kernel_rfl) ?_
            have a0 := cell_ext k0
            have a1 := cell_ext k00
            clear k0 k00
            repeat (go_big_quiet_step (fail))
            refine wpQuiet_nil ?_
            rintro w' ⟨kx, rfl⟩
            clear a0 a1
            have H6 := Aside0.mk (below_then hI.out hI.out.size kx.bel)
            obtain ⟨w6, hw6⟩ : ∃ X, kx.w = X := ⟨_, rfl⟩
            rw [hw6] at H6
            rw [hw6]
            clear hw6
            go_wp2_with fail
            go_roundg (nz - (j + 1))
            case measure => have := hk.out; omega
            case rel => exact ⟨j + 1, (by show nz - (j + 1) + (j + 1) = nz; omega), by go_num, H6⟩
          · obtain rfl : nz = j := by omega
            have dj : decide ((nz : Int) < (nz : Int)) = false := by simp
            have H7 := Aside0.mk (And.intro (H5.out.1.below hI.out) (H5.out.2.1.below hI.out))
            have dk : decide ((k' : Int) ≤ 20) = true := decide_eq_true (by omega)
            have dk2 : decide (k' ≤ 20) = true := decide_eq_true hk20
            have hvq : (vv == vv) = true := beq_self_eq_true _
            go_wp2_with (first
              | (go_at_call 12; refine (alive08_any _).mono ?_; rintro e w8 ⟨rfl, hB⟩; (have H8 := Aside0.mk (And.intro (H7.out.1.below hB) (H7.out.2.below hB))); clear hB; have y0 := H8.out.1.cell)
              | (go_at_call 20; refine (equal8_any A1 nv c1 vv A5 s9 c5 vv w8 H8.out.1.v H8.out.2).mono ?_; rintro e w9 ⟨rfl, rfl⟩; rw [hvq]))
            go_ret
            exact ⟨rfl, H8.out.1.bel⟩
end Go.Proofs.Ytbjfklgmbeaaoaa
