/- source.extent: an extent's bytes, and where they are. -/
import Derived.Test.YtbjfklgmbeaaoaaWI
set_option linter.unusedVariables false
set_option linter.unusedSimpArgs false
namespace Go.Proofs.Ytbjfklgmbeaaoaa
open Go.RowKit

theorem hNx_nn (xs : List UInt8) : 0 ≤ hNx xs := by unfold hNx; omega
theorem add_blk (ad : Addr) (j : Nat) : (ad.add j).block = ad.block := by unfold Addr.add; split <;> rfl
set_option maxHeartbeats 8000000 in
set_option maxRecDepth 100000 in
theorem sext_any {w0 : World} {F : Nat} {caps : Array Value} {ar : Int → Int → Array Value} {t : Nat} {r : RP} {Box : Nat → World → Prop} (hR : Rdr w0 F caps ar t r Box) (k : Nat) (id : Int) (many : Nat) (w : World) (ho : OnlyB t w0 w) (hb : Box k w) (hid : -9223372036854775808 ≤ id ∧ id ≤ 9223372036854775807) (hm : many ≤ 100) :
    Calls Try.prog 46 #[.agg #[.func (.func F) #[] caps, .int .i64 3, .int .i64 id, .int .i64 (many : Int)]] w fun e w' => ∃ A1 c1 A2 c2 k' v zs, (exS r id many).getD ([], []) = (v, zs) ∧ e = .returned (.tuple #[.slice A1 v.length c1, .slice A2 zs.length c2]) ∧
      Bs w' A1 v.length c1 v ∧ (∀ ad, A1 = some ad → 0 < v.length → ad.block ≠ t) ∧ Oc w' w.heap.size 3 1 A2 zs.length c2 (iv zs) ∧ Box k' w' ∧ k' ≤ k + 1 ∧ OnlyB t w w' := by
  have ht : t < w.heap.size := Nat.lt_of_lt_of_le hR.lt ho.size
  have HR := Aside0.mk hR
  have hbx := Aside0.mk hR.box
  have HO := Aside0.mk ho
  obtain ⟨mb, hmb⟩ : ∃ x, many * 256 = x := ⟨_, rfl⟩
  have wm : IntKind.i64.wrap ((many : Int) * 256) = (mb : Int) := (IntWalk.i64_in _ (by omega)).trans (by omega)
  have hmb2 : mb ≤ 25600 := by omega
  have HMB := Aside0.mk hmb
  have h1 : SC w t Box k w.heap.size (.cells #[.func (.func F) #[] caps, .int .i64 3, .int .i64 id, .int .i64 (many : Int)] 85) none 0 [] none 0 [] (w.alloc (.cells #[.func (.func F) #[] caps, .int .i64 3, .int .i64 id, .int .i64 (many : Int)] 85)) := ⟨OnlyB.of_below ((Below.refl _ w).alloc (Nat.le_refl _) _), hR.box _ _ _ (Below.heap_alloc w _ t ht) hb, heap_alloc_new w _, Ow.nil _ _, Oc.nil _ _ _ _⟩
  clear hR ho hb hmb
  go_enter Try.func46, Try.ntmps46
  go_upto_region 1 with fail
  obtain ⟨w1, hw1⟩ : ∃ X, w.alloc (.cells #[.func (.func F) #[] caps, .int .i64 3, .int .i64 id, .int .i64 (many : Int)] 85) = X := ⟨_, rfl⟩
  obtain ⟨N, hN⟩ : ∃ X, w.heap.size = X := ⟨_, rfl⟩
  have hNt : N ≠ t := by omega
  rw [hw1, hN] at h1
  rw [hw1, hN]
  have H1 := Aside0.mk h1
  have HN := Aside0.mk hN
  clear h1 hw1 hN
  obtain ⟨bb, hbb⟩ : ∃ x, r.b id (many : Int) = x := ⟨_, rfl⟩
  obtain ⟨ee, hee⟩ : ∃ x, r.e id (many : Int) = x := ⟨_, rfl⟩
  have HBE := Aside0.mk (And.intro hbb hee)
  go_cut [4, 5] (fun v4 v5 wx => ∃ (A : Option Addr) (c : Nat), v4 = .slice A bb.length c ∧ v5 = .int .i64 ee ∧ Aside0 (SC w t Box (k + 1) N (.cells #[.func (.func F) #[] caps, .int .i64 3, .int .i64 id, .int .i64 (many : Int)] 85) none 0 [] none 0 [] wx ∧ Bs wx A bb.length c bb ∧ ∀ ad, A = some ad → 0 < bb.length → ad.block ≠ t))
  case first =>
    obtain ⟨z0, z1, z2, z3⟩ := item_cells2 H1.out.row
    have hcall := HR.out.call k id (many : Int) w1 (HO.out.trans H1.out.only) H1.out.bx hid ⟨by omega, by omega⟩
    rw [hbb, hee] at hcall
    clear hbb hee
    rcases HR.out.kind with ⟨rfl, p, rfl, rfl⟩ | ⟨rfl, p, q, rfl, rfl⟩
    · dsimp only at hcall
      go_wp2_with (go_at_call 43; refine hcall.mono ?_; rintro e w3 ⟨A, c, rfl, hB3, hne3, hx3, ho3⟩; (have H3 := Aside0.mk (And.intro (H1.out.read ht hNt ho3 hx3) (And.intro hB3 hne3))); clear hB3 ho3 hx3 hne3)
      go_meet
      exact ⟨A, c, rfl, rfl, H3⟩
    · dsimp only at hcall
      go_wp2_with (go_at_call 50; refine hcall.mono ?_; rintro e w3 ⟨A, c, rfl, hB3, hne3, hx3, ho3⟩; (have H3 := Aside0.mk (And.intro (H1.out.read ht hNt ho3 hx3) (And.intro hB3 hne3))); clear hB3 ho3 hx3 hne3)
      go_meet
      exact ⟨A, c, rfl, rfl, H3⟩
  case rest =>
    obtain ⟨A, c, rfl, rfl, HC⟩ := hcut
    clear hbb hee
    have hok : ∀ q : (r.e id (many : Int) = 0 ∧ hE (r.b id (many : Int)) = 0 ∧ (r.b id (many : Int)).length = many * 256 ∧ hNx (r.b id (many : Int)) ≤ (many : Int) * 256 - 16), ee = 0 ∧ hE bb = 0 ∧ bb.length = mb ∧ hNx bb ≤ (mb : Int) - 16 := fun q => by
      rw [HBE.out.1, HBE.out.2, HMB.out] at q
      exact ⟨q.1, q.2.1, q.2.2.1, by have := HMB.out; have := q.2.2.2; omega⟩
    have HOK := Aside0.mk hok
    clear hok
    have cHd : ∀ W, Calls Try.prog 41 #[.int .i64 3] W fun e w' => e = .returned (.int .i64 16) ∧ Below W.heap.size W w' := fun W => by
      have h := head_any 3 W
      rwa [show hdI 3 = 16 from rfl] at h
    by_cases t2 : hE bb = 0
    case neg =>
      have HV := Aside0.mk (show hV bb = #[.int .i64 0, .int .i64 0, .int .i64 0, .int .i64 0] from if_neg t2)
      have b2 : (hE bb != 0) = true := bne_iff_ne.2 t2
      by_cases t1 : ee = 0
      case neg =>
        have HT1 := Aside0.mk t1
        have b1 : (ee != 0) = true := bne_iff_ne.2 t1
        clear t1 t2
        have HE := Aside0.mk (show (exS r id many).getD ([], []) = ([], []) by
          unfold exS
          rw [if_neg (fun q => HT1.out (HOK.out q).1)]
          rfl)
        have cH := headOf_any A bb.length c bb wc HC.out.2.1
        rw [HV.out] at cH
        go_upto_region 3 with (go_at_call 25; refine cH.mono ?_; rintro e w4 ⟨rfl, hB⟩; (have H4 := Aside0.mk (And.intro (HC.out.1.below ht hbx.out hB) hB)); clear hB)
        clear cH
        have hB5 := (Below.refl _ w4).alloc (Nat.le_refl _) (.cells #[.int .i64 0, .int .i64 0, .int .i64 0, .int .i64 0] 53)
        have h5 := H4.out.1.below ht hbx.out hB5
        have hb5 := below_then H4.out.2 H4.out.2.size hB5
        have hr5 := heap_alloc_new w4 (.cells #[.int .i64 0, .int .i64 0, .int .i64 0, .int .i64 0] 53)
        obtain ⟨w5, hw5⟩ : ∃ X, w4.alloc (.cells #[.int .i64 0, .int .i64 0, .int .i64 0, .int .i64 0] 53) = X := ⟨_, rfl⟩
        obtain ⟨M, hM⟩ : ∃ X, w4.heap.size = X := ⟨_, rfl⟩
        rw [hw5] at h5 hb5 hr5
        rw [hM] at hr5
        rw [hw5, hM]
        have H5 := Aside0.mk (And.intro h5 (And.intro hr5 hb5))
        clear h5 hr5 hb5 hB5 hw5 hM
        obtain ⟨y0, y1, y2, y3⟩ := item_cells2 H5.out.2.1
        obtain ⟨z0, z1, z2, z3⟩ := item_cells2 H5.out.1.row
        refine wp_region_ext (by kernel_rfl) (by kernel_rfl) ?_
        have a1 := cell_ext y3
        have a2 := cell_ext z3
        have a3 := cell_ext z1
        clear y0 y1 y2 y3 z0 z1 z2 z3
        repeat (go_big_quiet_step (first | (go_at_call 41; exact Calls.ext_of (cHd _))))
        refine wpQuiet_nil ?_
        rintro w' ⟨kx, rfl⟩
        clear a1 a2 a3
        have H6 := Aside0.mk (And.intro (H5.out.1.below ht hbx.out kx.bel) (And.intro ((kx.bel.block _ (Array.getElem?_eq_some_iff.1 H5.out.2.1).1).trans H5.out.2.1) (below_then H5.out.2.2 H5.out.2.2.size kx.bel)))
        obtain ⟨w6, hw6⟩ : ∃ X, kx.w = X := ⟨_, rfl⟩
        rw [hw6] at H6
        rw [hw6]
        clear hw6
        clear b1 b2 cHd
        go_wp2_with fail
        go_ret2
        exact ⟨none, 0, none, 0, k + 1, [], [], HE.out, rfl, Bs.nil _ _ _ (by omega), (fun _ e _ => by cases e), Oc.nil _ _ _ _, H6.out.1.bx, Nat.le_refl _, H6.out.1.only⟩
      case pos =>
        have HT2 := Aside0.mk t2
        have b1 : (ee != 0) = false := by rw [t1]; exact bne_self_eq_false _
        clear t1 t2
        have HE := Aside0.mk (show (exS r id many).getD ([], []) = ([], []) by
          unfold exS
          rw [if_neg (fun q => HT2.out (HOK.out q).2.1)]
          rfl)
        have cH := headOf_any A bb.length c bb wc HC.out.2.1
        rw [HV.out] at cH
        go_upto_region 3 with (go_at_call 25; refine cH.mono ?_; rintro e w4 ⟨rfl, hB⟩; (have H4 := Aside0.mk (And.intro (HC.out.1.below ht hbx.out hB) hB)); clear hB)
        clear cH
        have hB5 := (Below.refl _ w4).alloc (Nat.le_refl _) (.cells #[.int .i64 0, .int .i64 0, .int .i64 0, .int .i64 0] 53)
        have h5 := H4.out.1.below ht hbx.out hB5
        have hb5 := below_then H4.out.2 H4.out.2.size hB5
        have hr5 := heap_alloc_new w4 (.cells #[.int .i64 0, .int .i64 0, .int .i64 0, .int .i64 0] 53)
        obtain ⟨w5, hw5⟩ : ∃ X, w4.alloc (.cells #[.int .i64 0, .int .i64 0, .int .i64 0, .int .i64 0] 53) = X := ⟨_, rfl⟩
        obtain ⟨M, hM⟩ : ∃ X, w4.heap.size = X := ⟨_, rfl⟩
        rw [hw5] at h5 hb5 hr5
        rw [hM] at hr5
        rw [hw5, hM]
        have H5 := Aside0.mk (And.intro h5 (And.intro hr5 hb5))
        clear h5 hr5 hb5 hB5 hw5 hM
        obtain ⟨y0, y1, y2, y3⟩ := item_cells2 H5.out.2.1
        obtain ⟨z0, z1, z2, z3⟩ := item_cells2 H5.out.1.row
        refine wp_region_ext (by kernel_rfl) (by kernel_rfl) ?_
        have a1 := cell_ext y3
        have a2 := cell_ext z3
        have a3 := cell_ext z1
        clear y0 y1 y2 y3 z0 z1 z2 z3
        repeat (go_big_quiet_step (first | (go_at_call 41; exact Calls.ext_of (cHd _))))
        refine wpQuiet_nil ?_
        rintro w' ⟨kx, rfl⟩
        clear a1 a2 a3
        have H6 := Aside0.mk (And.intro (H5.out.1.below ht hbx.out kx.bel) (And.intro ((kx.bel.block _ (Array.getElem?_eq_some_iff.1 H5.out.2.1).1).trans H5.out.2.1) (below_then H5.out.2.2 H5.out.2.2.size kx.bel)))
        obtain ⟨w6, hw6⟩ : ∃ X, kx.w = X := ⟨_, rfl⟩
        rw [hw6] at H6
        rw [hw6]
        clear hw6
        clear b1 b2 cHd
        go_wp2_with fail
        go_ret2
        exact ⟨none, 0, none, 0, k + 1, [], [], HE.out, rfl, Bs.nil _ _ _ (by omega), (fun _ e _ => by cases e), Oc.nil _ _ _ _, H6.out.1.bx, Nat.le_refl _, H6.out.1.only⟩
    case pos =>
      have HV := Aside0.mk (show hV bb = #[.int .i64 (hK bb), .int .i64 (hG bb), .int .i64 (hC bb), .int .i64 (hNx bb)] from if_pos t2)
      have b2 : (hE bb != 0) = false := by rw [t2]; exact bne_self_eq_false _
      by_cases t1 : ee = 0
      case neg =>
        have HT1 := Aside0.mk t1
        have b1 : (ee != 0) = true := bne_iff_ne.2 t1
        clear t1 t2
        have HE := Aside0.mk (show (exS r id many).getD ([], []) = ([], []) by
          unfold exS
          rw [if_neg (fun q => HT1.out (HOK.out q).1)]
          rfl)
        have cH := headOf_any A bb.length c bb wc HC.out.2.1
        rw [HV.out] at cH
        go_upto_region 3 with (go_at_call 25; refine cH.mono ?_; rintro e w4 ⟨rfl, hB⟩; (have H4 := Aside0.mk (And.intro (HC.out.1.below ht hbx.out hB) hB)); clear hB)
        clear cH
        have hB5 := (Below.refl _ w4).alloc (Nat.le_refl _) (.cells #[.int .i64 (hK bb), .int .i64 (hG bb), .int .i64 (hC bb), .int .i64 (hNx bb)] 53)
        have h5 := H4.out.1.below ht hbx.out hB5
        have hb5 := below_then H4.out.2 H4.out.2.size hB5
        have hr5 := heap_alloc_new w4 (.cells #[.int .i64 (hK bb), .int .i64 (hG bb), .int .i64 (hC bb), .int .i64 (hNx bb)] 53)
        obtain ⟨w5, hw5⟩ : ∃ X, w4.alloc (.cells #[.int .i64 (hK bb), .int .i64 (hG bb), .int .i64 (hC bb), .int .i64 (hNx bb)] 53) = X := ⟨_, rfl⟩
        obtain ⟨M, hM⟩ : ∃ X, w4.heap.size = X := ⟨_, rfl⟩
        rw [hw5] at h5 hb5 hr5
        rw [hM] at hr5
        rw [hw5, hM]
        have H5 := Aside0.mk (And.intro h5 (And.intro hr5 hb5))
        clear h5 hr5 hb5 hB5 hw5 hM
        obtain ⟨y0, y1, y2, y3⟩ := item_cells2 H5.out.2.1
        obtain ⟨z0, z1, z2, z3⟩ := item_cells2 H5.out.1.row
        refine wp_region_ext (by kernel_rfl) (by kernel_rfl) ?_
        have a1 := cell_ext y3
        have a2 := cell_ext z3
        have a3 := cell_ext z1
        clear y0 y1 y2 y3 z0 z1 z2 z3
        repeat (go_big_quiet_step (first | (go_at_call 41; exact Calls.ext_of (cHd _))))
        refine wpQuiet_nil ?_
        rintro w' ⟨kx, rfl⟩
        clear a1 a2 a3
        have H6 := Aside0.mk (And.intro (H5.out.1.below ht hbx.out kx.bel) (And.intro ((kx.bel.block _ (Array.getElem?_eq_some_iff.1 H5.out.2.1).1).trans H5.out.2.1) (below_then H5.out.2.2 H5.out.2.2.size kx.bel)))
        obtain ⟨w6, hw6⟩ : ∃ X, kx.w = X := ⟨_, rfl⟩
        rw [hw6] at H6
        rw [hw6]
        clear hw6
        clear b1 b2 cHd
        go_wp2_with fail
        go_ret2
        exact ⟨none, 0, none, 0, k + 1, [], [], HE.out, rfl, Bs.nil _ _ _ (by omega), (fun _ e _ => by cases e), Oc.nil _ _ _ _, H6.out.1.bx, Nat.le_refl _, H6.out.1.only⟩
      case pos =>
        have b1 : (ee != 0) = false := by rw [t1]; exact bne_self_eq_false _
        by_cases t4 : bb.length = mb
        case neg =>
          have HT4 := Aside0.mk t4
          have b4 : ((bb.length : Int) != (mb : Int)) = true := bne_iff_ne.2 (by omega)
          have b4' : (bb.length != mb) = true := bne_iff_ne.2 t4
          clear t1 t2 t4
          have HE := Aside0.mk (show (exS r id many).getD ([], []) = ([], []) by
            unfold exS
            rw [if_neg (fun q => HT4.out (HOK.out q).2.2.1)]
            rfl)
          have cH := headOf_any A bb.length c bb wc HC.out.2.1
          rw [HV.out] at cH
          go_upto_region 3 with (go_at_call 25; refine cH.mono ?_; rintro e w4 ⟨rfl, hB⟩; (have H4 := Aside0.mk (And.intro (HC.out.1.below ht hbx.out hB) hB)); clear hB)
          clear cH
          have hB5 := (Below.refl _ w4).alloc (Nat.le_refl _) (.cells #[.int .i64 (hK bb), .int .i64 (hG bb), .int .i64 (hC bb), .int .i64 (hNx bb)] 53)
          have h5 := H4.out.1.below ht hbx.out hB5
          have hb5 := below_then H4.out.2 H4.out.2.size hB5
          have hr5 := heap_alloc_new w4 (.cells #[.int .i64 (hK bb), .int .i64 (hG bb), .int .i64 (hC bb), .int .i64 (hNx bb)] 53)
          obtain ⟨w5, hw5⟩ : ∃ X, w4.alloc (.cells #[.int .i64 (hK bb), .int .i64 (hG bb), .int .i64 (hC bb), .int .i64 (hNx bb)] 53) = X := ⟨_, rfl⟩
          obtain ⟨M, hM⟩ : ∃ X, w4.heap.size = X := ⟨_, rfl⟩
          rw [hw5] at h5 hb5 hr5
          rw [hM] at hr5
          rw [hw5, hM]
          have H5 := Aside0.mk (And.intro h5 (And.intro hr5 hb5))
          clear h5 hr5 hb5 hB5 hw5 hM
          obtain ⟨y0, y1, y2, y3⟩ := item_cells2 H5.out.2.1
          obtain ⟨z0, z1, z2, z3⟩ := item_cells2 H5.out.1.row
          refine wp_region_ext (by kernel_rfl) (by kernel_rfl) ?_
          have a1 := cell_ext y3
          have a2 := cell_ext z3
          have a3 := cell_ext z1
          clear y0 y1 y2 y3 z0 z1 z2 z3
          repeat (go_big_quiet_step (first | (go_at_call 41; exact Calls.ext_of (cHd _))))
          refine wpQuiet_nil ?_
          rintro w' ⟨kx, rfl⟩
          clear a1 a2 a3
          have H6 := Aside0.mk (And.intro (H5.out.1.below ht hbx.out kx.bel) (And.intro ((kx.bel.block _ (Array.getElem?_eq_some_iff.1 H5.out.2.1).1).trans H5.out.2.1) (below_then H5.out.2.2 H5.out.2.2.size kx.bel)))
          obtain ⟨w6, hw6⟩ : ∃ X, kx.w = X := ⟨_, rfl⟩
          rw [hw6] at H6
          rw [hw6]
          clear hw6
          clear b1 b2 b4 b4' cHd
          go_wp2_with fail
          go_ret2
          exact ⟨none, 0, none, 0, k + 1, [], [], HE.out, rfl, Bs.nil _ _ _ (by omega), (fun _ e _ => by cases e), Oc.nil _ _ _ _, H6.out.1.bx, Nat.le_refl _, H6.out.1.only⟩
        case pos =>
          have b4 : ((bb.length : Int) != (mb : Int)) = false := by rw [t4]; exact bne_self_eq_false _
          have b4' : (bb.length != mb) = false := by rw [t4]; exact bne_self_eq_false _
          have wl : IntKind.i64.wrap ((bb.length : Int) - 16) = (bb.length : Int) - 16 := IntWalk.i64_in _ (by omega)
          by_cases t5 : hNx bb ≤ (bb.length : Int) - 16
          case neg =>
            have HT5 := Aside0.mk (And.intro t4 t5)
            have b5 : decide ((bb.length : Int) - 16 < hNx bb) = true := decide_eq_true (by omega)
            clear t1 t2 t4 t5
            have HE := Aside0.mk (show (exS r id many).getD ([], []) = ([], []) by
              unfold exS
              rw [if_neg (fun q => HT5.out.2 (by rw [HT5.out.1]; exact (HOK.out q).2.2.2))]
              rfl)
            have cH := headOf_any A bb.length c bb wc HC.out.2.1
            rw [HV.out] at cH
            go_upto_region 3 with (go_at_call 25; refine cH.mono ?_; rintro e w4 ⟨rfl, hB⟩; (have H4 := Aside0.mk (And.intro (HC.out.1.below ht hbx.out hB) hB)); clear hB)
            clear cH
            have hB5 := (Below.refl _ w4).alloc (Nat.le_refl _) (.cells #[.int .i64 (hK bb), .int .i64 (hG bb), .int .i64 (hC bb), .int .i64 (hNx bb)] 53)
            have h5 := H4.out.1.below ht hbx.out hB5
            have hb5 := below_then H4.out.2 H4.out.2.size hB5
            have hr5 := heap_alloc_new w4 (.cells #[.int .i64 (hK bb), .int .i64 (hG bb), .int .i64 (hC bb), .int .i64 (hNx bb)] 53)
            obtain ⟨w5, hw5⟩ : ∃ X, w4.alloc (.cells #[.int .i64 (hK bb), .int .i64 (hG bb), .int .i64 (hC bb), .int .i64 (hNx bb)] 53) = X := ⟨_, rfl⟩
            obtain ⟨M, hM⟩ : ∃ X, w4.heap.size = X := ⟨_, rfl⟩
            rw [hw5] at h5 hb5 hr5
            rw [hM] at hr5
            rw [hw5, hM]
            have H5 := Aside0.mk (And.intro h5 (And.intro hr5 hb5))
            clear h5 hr5 hb5 hB5 hw5 hM
            obtain ⟨y0, y1, y2, y3⟩ := item_cells2 H5.out.2.1
            obtain ⟨z0, z1, z2, z3⟩ := item_cells2 H5.out.1.row
            refine wp_region_ext (by kernel_rfl) (by kernel_rfl) ?_
            have a1 := cell_ext y3
            have a2 := cell_ext z3
            have a3 := cell_ext z1
            clear y0 y1 y2 y3 z0 z1 z2 z3
            repeat (go_big_quiet_step (first | (go_at_call 41; exact Calls.ext_of (cHd _))))
            refine wpQuiet_nil ?_
            rintro w' ⟨kx, rfl⟩
            clear a1 a2 a3
            have H6 := Aside0.mk (And.intro (H5.out.1.below ht hbx.out kx.bel) (And.intro ((kx.bel.block _ (Array.getElem?_eq_some_iff.1 H5.out.2.1).1).trans H5.out.2.1) (below_then H5.out.2.2 H5.out.2.2.size kx.bel)))
            obtain ⟨w6, hw6⟩ : ∃ X, kx.w = X := ⟨_, rfl⟩
            rw [hw6] at H6
            rw [hw6]
            clear hw6
            clear b1 b2 b4 b4' b5 cHd
            go_wp2_with fail
            go_ret2
            exact ⟨none, 0, none, 0, k + 1, [], [], HE.out, rfl, Bs.nil _ _ _ (by omega), (fun _ e _ => by cases e), Oc.nil _ _ _ _, H6.out.1.bx, Nat.le_refl _, H6.out.1.only⟩
          case pos =>
            have HT := Aside0.mk (And.intro t1 (And.intro t2 (And.intro t4 t5)))
            have hbd := HR.out.bound id (many : Int) (by rw [HBE.out.2]; exact t1)
            have b5 : decide ((bb.length : Int) - 16 < hNx bb) = false := decide_eq_false (by omega)
            have HE := Aside0.mk (show (exS r id many).getD ([], []) = ((bb.drop 16).take (hNx bb).toNat, (List.range many).map (fun (k : Nat) => id + (k : Int))) by
              unfold exS
              rw [HBE.out.1, HBE.out.2, if_pos ⟨t1, t2, by rw [t4, HMB.out], by have := HMB.out; omega⟩]
              rfl)
            clear t1 t2 t4 t5
            have cH := headOf_any A bb.length c bb wc HC.out.2.1
            rw [HV.out] at cH
            go_upto_region 3 with (go_at_call 25; refine cH.mono ?_; rintro e w4 ⟨rfl, hB⟩; (have H4 := Aside0.mk (And.intro (HC.out.1.below ht hbx.out hB) hB)); clear hB)
            clear cH
            have hB5 := (Below.refl _ w4).alloc (Nat.le_refl _) (.cells #[.int .i64 (hK bb), .int .i64 (hG bb), .int .i64 (hC bb), .int .i64 (hNx bb)] 53)
            have h5 := H4.out.1.below ht hbx.out hB5
            have hb5 := below_then H4.out.2 H4.out.2.size hB5
            have hr5 := heap_alloc_new w4 (.cells #[.int .i64 (hK bb), .int .i64 (hG bb), .int .i64 (hC bb), .int .i64 (hNx bb)] 53)
            obtain ⟨w5, hw5⟩ : ∃ X, w4.alloc (.cells #[.int .i64 (hK bb), .int .i64 (hG bb), .int .i64 (hC bb), .int .i64 (hNx bb)] 53) = X := ⟨_, rfl⟩
            obtain ⟨M, hM⟩ : ∃ X, w4.heap.size = X := ⟨_, rfl⟩
            rw [hw5] at h5 hb5 hr5
            rw [hM] at hr5
            rw [hw5, hM]
            have H5 := Aside0.mk (And.intro h5 (And.intro hr5 hb5))
            clear h5 hr5 hb5 hB5 hw5 hM
            obtain ⟨y0, y1, y2, y3⟩ := item_cells2 H5.out.2.1
            obtain ⟨z0, z1, z2, z3⟩ := item_cells2 H5.out.1.row
            refine wp_region_ext (by kernel_rfl) (by kernel_rfl) ?_
            have a1 := cell_ext y3
            have a2 := cell_ext z3
            have a3 := cell_ext z1
            clear y0 y1 y2 y3 z0 z1 z2 z3
            repeat (go_big_quiet_step (first | (go_at_call 41; exact Calls.ext_of (cHd _))))
            refine wpQuiet_nil ?_
            rintro w' ⟨kx, rfl⟩
            clear a1 a2 a3
            have H6 := Aside0.mk (And.intro (H5.out.1.below ht hbx.out kx.bel) (And.intro ((kx.bel.block _ (Array.getElem?_eq_some_iff.1 H5.out.2.1).1).trans H5.out.2.1) (below_then H5.out.2.2 H5.out.2.2.size kx.bel)))
            obtain ⟨w6, hw6⟩ : ∃ X, kx.w = X := ⟨_, rfl⟩
            rw [hw6] at H6
            rw [hw6]
            clear hw6
            clear b1 b2 b4 b4' b5 wl
            obtain ⟨z0, z1, z2, z3⟩ := item_cells2 H6.out.1.row
            go_wp2_with fail
            clear z0 z1 z2 z3
            go_loopg [8, 52] many (fun gk v8 v52 wr => ∃ (j : Nat) (A2 : Option Addr) (c2 : Nat), Aside (gk + j = many) ∧ v8 = .slice A2 j c2 ∧ v52 = .int .i64 (j : Int) ∧ Aside0 (SC w t Box (k + 1) N (.cells #[.func (.func F) #[] caps, .int .i64 3, .int .i64 id, .int .i64 (many : Int)] 85) none 0 [] A2 c2 ((List.range j).map (fun (k : Nat) => id + (k : Int))) wr ∧ wr.heap[M]? = some (.cells #[.int .i64 (hK bb), .int .i64 (hG bb), .int .i64 (hC bb), .int .i64 (hNx bb)] 53) ∧ Below wc.heap.size wc wr ∧ ∀ i, A2 = some ⟨i, 0, none⟩ → wc.heap.size ≤ i))
            case atStart => exact ⟨0, none, 0, rfl, rfl, rfl, ⟨H6.out.1, H6.out.2.1, H6.out.2.2, fun _ e => by cases e⟩⟩
            case round =>
              obtain ⟨j, A2, c2, hk, rfl, rfl, hI⟩ := hrel
              have hjm : j ≤ many := by have := hk.out; omega
              obtain ⟨z0, z1, z2, z3⟩ := item_cells2 hI.out.1.row
              rcases Nat.lt_or_ge j many with hlt | hge
              · have dj1 : decide ((j : Int) < (many : Int)) = true := decide_eq_true (by omega)
                have djn : (j : Int) < (many : Int) := by omega
                obtain ⟨ij, hij⟩ : ∃ x, id + (j : Int) = x := ⟨_, rfl⟩
                have wi : IntKind.i64.wrap (id + (j : Int)) = ij := (IntWalk.i64_in _ (by omega)).trans hij
                have wj : IntKind.i64.wrap ((j : Int) + 1) = ((j + 1 : Nat) : Int) := IntWalk.i64_in _ (by omega)
                have HIJ := Aside0.mk hij
                have hOi : Oc wr w.heap.size 3 1 A2 j c2 (iv ((List.range j).map (fun (k : Nat) => id + (k : Int)))) := by
                  have h := hI.out.1.ids
                  rw [List.length_map, List.length_range] at h
                  exact h
                have HOI := Aside0.mk hOi
                clear hOi hij
                go_wp2_with (at_builtin; refine wpl_oc w.heap.size rfl _ _ 28 3 (.int .i64 0) 1 8 rfl Try.underlying28 infoI rfl (by omega) (by omega) (by omega) A2 j _ wr.heap.size (iv ((List.range j).map (fun (k : Nat) => id + (k : Int)))) [.int .i64 ij] rfl rfl (HOI.out.below ((Below.refl _ wr).alloc (Nat.le_refl _) _)) rfl (lit1_range _ _) (iv_one [ij]) (by have := hI.out.1.only.size; simp; omega) (by omega) ?_; intro A10 c10 w10 hO hG hA)
                go_roundg (many - (j + 1))
                case measure => have := hk.out; omega
                case rel =>
                  have hal := (Below.refl wr.heap.size wr).alloc (Nat.le_refl _) (.cells #[.int .i64 ij] 3)
                  have hl : (List.range (j + 1)).map (fun (k : Nat) => id + (k : Int)) = (List.range j).map (fun (k : Nat) => id + (k : Int)) ++ [ij] := by
                    rw [List.range_succ, List.map_append, ← HIJ.out]
                    rfl
                  have h10 : SC w t Box (k + 1) N (.cells #[.func (.func F) #[] caps, .int .i64 3, .int .i64 id, .int .i64 (many : Int)] 85) none 0 [] A10 c10 ((List.range (j + 1)).map (fun (k : Nat) => id + (k : Int))) w10 := by
                    refine (hI.out.1.below ht hbx.out hal).add ht hbx.out (by decide) hG.out ?_
                    rw [hl, List.length_append, List.length_map, List.length_range, iv_app]
                    exact hO.out
                  have hm10 := row_add (HOI.out.below hal) ((Below.heap_alloc wr _ M (Array.getElem?_eq_some_iff.1 hI.out.2.1).1).trans hI.out.2.1) (by decide) hG.out
                  refine ⟨j + 1, A10, c10, (by show many - (j + 1) + (j + 1) = many; omega), rfl, by go_num, ⟨h10, hm10, hG.out.below hI.out.2.2.1 hI.out.2.2.2 hI.out.2.2.1.size, fun i e => ?_⟩⟩
                  have hws := hI.out.2.2.1.size
                  rcases hA.out with q | q
                  · exact hI.out.2.2.2 i (q.symm.trans e)
                  · rw [q] at e
                    injection e with e
                    injection e with e
                    rw [← e]
                    simp
                    omega
              · obtain rfl : many = j := by omega
                have dj1 : decide ((many : Int) < (many : Int)) = false := by simp
                have hbw := HC.out.2.1.below hI.out.2.2.1
                have HBW := Aside0.mk hbw
                have hs1 := fun W => sl8_l W A bb.length c .i64 16 (by omega) (by have := HT.out.2.2.2; have := (hNx_bnd HT.out.2.1); have := hNx_nn bb; omega)
                have hs2 := fun W => sl8_h W (cutA A c 16) (bb.length - 16) (c - 16) .i64 (hNx bb) (hNx_nn bb) (by have := HT.out.2.2.2; have := hbw.le; omega)
                simp only [show ((16 : Int)).toNat = 16 from rfl] at hs1
                have HV3 := Aside0.mk hI.out.2.1
                clear hbw
                go_upto_region 11 with fail
                obtain ⟨y0, y1, y2, y3⟩ := item_cells2 hI.out.2.1
                obtain ⟨z0, z1, z2, z3⟩ := item_cells2 hI.out.1.row
                refine wp_region_ext (by kernel_rfl) (by kernel_rfl) ?_
                have a1 := cell_ext y3
                have a3 := cell_ext z1
                clear y0 y1 y2 y3 z0 z1 z2 z3
                repeat (go_big_quiet_step (first | (go_at_call 41; exact Calls.ext_of (cHd _))))
                refine wpQuiet_nil ?_
                rintro w' ⟨kx, rfl⟩
                clear a1 a3 hs1 hs2 cHd dj1
                have H7 := Aside0.mk (And.intro (hI.out.1.below ht hbx.out kx.bel) (HBW.out.below kx.bel))
                obtain ⟨w7, hw7⟩ : ∃ X, kx.w = X := ⟨_, rfl⟩
                rw [hw7] at H7
                rw [hw7]
                clear hw7
                go_wp2_with fail
                go_ret2
                have hvl : ((bb.drop 16).take (hNx bb).toNat).length = (hNx bb).toNat := by
                  rw [List.length_take, List.length_drop]
                  have := HT.out.2.2.2
                  omega
                have hB7 := (H7.out.2.drop 16 (by have := HT.out.2.2.2; have := hNx_nn bb; omega)).take (hNx bb).toNat (by have := HT.out.2.2.2; omega)
                refine ⟨cutA A c 16, c - 16, A2, c2, k + 1, _, _, HE.out, ?_, by rw [hvl]; exact hB7, ?_, by simpa using H7.out.1.ids, H7.out.1.bx, Nat.le_refl _, H7.out.1.only⟩
                · (rw [hvl, List.length_map, List.length_range]) <;> rfl
                · intro ad e h0
                  unfold cutA at e
                  split at e
                  · exact HC.out.2.2 ad e (by have := HT.out.2.2.2; rw [hvl] at h0; omega)
                  · cases hA : A with
                    | none => rw [hA] at e; cases e
                    | some a2 =>
                      rw [hA] at e
                      injection e with e
                      rw [← e, add_blk]
                      exact HC.out.2.2 a2 hA (by have := HT.out.2.2.2; rw [hvl] at h0; omega)

end Go.Proofs.Ytbjfklgmbeaaoaa
