/- source.chain: a chain's bytes, and where they are. -/
import Derived.Test.YtbjfklgmbeaaoaaWH
import Derived.Deep.CutBlock
import Derived.Deep.CutRange
set_option linter.unusedVariables false
set_option linter.unusedSimpArgs false
namespace Go.Proofs.Ytbjfklgmbeaaoaa
open Go.RowKit

theorem hNx_bnd {xs : List UInt8} (h : hE xs = 0) : -9223372036854775808 ≤ hNx xs ∧ hNx xs ≤ 9223372036854775807 := by
  have h1 := (hE_in h).2.2.2.2.2
  have h2 : 0 ≤ hNx xs := by unfold hNx; omega
  omega
theorem scB_step {r : RP} {g id : Int} {k : Nat} (h0 : id ≠ 0) (h : scOk r g id) : scB r g (k + 1) id = (scB r g k (hNx (r.b id 1))).map (fun p => (scV r id ++ p.1, id :: p.2)) := by
  rw [scB, if_neg h0, if_pos h]
theorem scB_bad {r : RP} {g id : Int} {k : Nat} (h0 : id ≠ 0) (h : ¬ scOk r g id) : scB r g (k + 1) id = none := by
  rw [scB, if_neg h0, if_neg h]
theorem scB_end {r : RP} {g id : Int} {k : Nat} (h : id = 0 ∨ k = 0) : scB r g k id = some ([], []) := by
  rcases h with rfl | rfl
  · cases k with
    | zero => rfl
    | succ k => rw [scB, if_pos rfl]
  · rfl
theorem hC_lim (xs : List UInt8) : 0 ≤ hC xs ∧ hC xs ≤ 65535 := by
  unfold hC
  have h1 := leN_lt ((xs.drop 2).take 2)
  have h2 : ((xs.drop 2).take 2).length ≤ 2 := by rw [List.length_take]; omega
  have h3 := Nat.pow_le_pow_right (show 0 < 256 by omega) h2
  have h5 : (256 : Nat) ^ 2 = 65536 := by decide
  omega
theorem row_app {W W1 : World} {base n c M : Nat} {A : Option Addr} {xs : List UInt8} {C : Array Value} {T : TypeId} {fr : Nat × Nat} (h : Ow W base A n c xs) (hr : W.heap[M]? = some (.cells C T fr)) (hT : T ≠ 5) (hg : W.grownBy W1 (Value.slice A n c).ownBlock) : W1.heap[M]? = some (.cells C T fr) := by
  refine (hg.block M (Array.getElem?_eq_some_iff.1 hr).1 (fun e => ?_)).trans hr
  rcases h.addr8' with q | ⟨j, q, _⟩
  · rw [q] at e; cases e
  · have h2 := h.row_ne hr hT
    rw [q] at e
    injection e with e
    exact h2 (by rw [q]; have e2 : M = j := e; rw [e2])
theorem row_add {W W1 : World} {base n c M k : Nat} {A : Option Addr} {xs : List Value} {C : Array Value} {T T2 : TypeId} {fr : Nat × Nat} (h : Oc W base T2 k A n c xs) (hr : W.heap[M]? = some (.cells C T fr)) (hT : T ≠ T2) (hg : Grw A W W1) : W1.heap[M]? = some (.cells C T fr) :=
  (hg.block M (Array.getElem?_eq_some_iff.1 hr).1 (h.row_ne hr hT)).trans hr
set_option maxHeartbeats 8000000 in
set_option maxRecDepth 100000 in
theorem schain_any {w0 : World} {F : Nat} {caps : Array Value} {ar : Int → Int → Array Value} {t : Nat} {r : RP} {Box : Nat → World → Prop} (hR : Rdr w0 F caps ar t r Box) (k : Nat) (g id : Int) (many : Nat) (w : World) (hg : 1 ≤ g ∧ g ≤ 3) (ho : OnlyB t w0 w) (hb : Box k w) (hid : -9223372036854775808 ≤ id ∧ id ≤ 9223372036854775807) (hm : many ≤ 100) :
    Calls Try.prog 47 #[.agg #[.func (.func F) #[] caps, .int .i64 g, .int .i64 id, .int .i64 (many : Int)]] w fun e w' => ∃ A1 c1 A2 c2 k' v zs, (scB r g many id).getD ([], []) = (v, zs) ∧ e = .returned (.tuple #[.slice A1 v.length c1, .slice A2 zs.length c2]) ∧
      Ow w' w.heap.size A1 v.length c1 v ∧ Oc w' w.heap.size 3 1 A2 zs.length c2 (iv zs) ∧ Box k' w' ∧ k' ≤ k + many ∧ OnlyB t w w' := by
  have ht : t < w.heap.size := Nat.lt_of_lt_of_le hR.lt ho.size
  have HR := Aside0.mk hR
  have hbx := Aside0.mk hR.box
  have HO := Aside0.mk ho
  obtain ⟨cp, hcp⟩ := Int.eq_ofNat_of_zero_le (show 0 ≤ cpI g by rcases (show g = 1 ∨ g = 2 ∨ g = 3 by omega) with h | h | h <;> rw [h] <;> decide)
  have HCP := Aside0.mk hcp
  have h1 : SC w t Box k w.heap.size (.cells #[.func (.func F) #[] caps, .int .i64 g, .int .i64 id, .int .i64 (many : Int)] 85) none 0 [] none 0 [] (w.alloc (.cells #[.func (.func F) #[] caps, .int .i64 g, .int .i64 id, .int .i64 (many : Int)] 85)) := ⟨OnlyB.of_below ((Below.refl _ w).alloc (Nat.le_refl _) _), hR.box _ _ _ (Below.heap_alloc w _ t ht) hb, heap_alloc_new w _, Ow.nil _ _, Oc.nil _ _ _ _⟩
  clear hcp hR ho hb
  go_enter Try.func47, Try.ntmps47
  go_upto_region 1 with fail
  obtain ⟨w1, hw1⟩ : ∃ X, w.alloc (.cells #[.func (.func F) #[] caps, .int .i64 g, .int .i64 id, .int .i64 (many : Int)] 85) = X := ⟨_, rfl⟩
  obtain ⟨N, hN⟩ : ∃ X, w.heap.size = X := ⟨_, rfl⟩
  have hNt : N ≠ t := by omega
  rw [hw1, hN] at h1
  rw [hw1, hN]
  have H1 := Aside0.mk h1
  have HN := Aside0.mk hN
  clear h1 hw1 hN
  obtain ⟨z0, z1, z2, z3⟩ := item_cells2 H1.out.row
  go_wp2_with fail
  clear z0 z1 z2 z3
  go_loopg [4, 5, 6] many (fun gk v4 v5 v6 wr => ∃ (j : Nat) (A1 : Option Addr) (c1 : Nat) (o : List UInt8) (A2 : Option Addr) (c2 : Nat) (l : List Int) (idj : Int) (k' : Nat), Aside (gk + j = many) ∧ v4 = .slice A1 o.length c1 ∧ v5 = .slice A2 l.length c2 ∧ v6 = .int .i64 idj ∧ Aside0 (SC w t Box k' N (.cells #[.func (.func F) #[] caps, .int .i64 g, .int .i64 id, .int .i64 (many : Int)] 85) A1 c1 o A2 c2 l wr ∧ l.length = j ∧ o.length ≤ 256 * j ∧ k' ≤ k + j ∧ (-9223372036854775808 ≤ idj ∧ idj ≤ 9223372036854775807) ∧ scB r g many id = (scB r g (many - j) idj).map (fun p => (o ++ p.1, l ++ p.2))))
  case atStart => exact ⟨0, none, 0, [], none, 0, [], id, k, rfl, rfl, rfl, rfl, ⟨H1.out, rfl, by simp, by omega, hid, by simp⟩⟩
  case round =>
    obtain ⟨j, A1, c1, o, A2, c2, l, idj, k', hk, rfl, rfl, rfl, hI⟩ := hrel
    have hjm : j ≤ many := by have := hk.out; omega
    obtain ⟨z0, z1, z2, z3⟩ := item_cells2 hI.out.1.row
    have HNL := Aside0.mk hI.out.2.1
    rw [HNL.out]
    by_cases qe : idj = 0 ∨ j = many
    · have HE := Aside0.mk (show (scB r g many id).getD ([], []) = (o, l) by
        rw [hI.out.2.2.2.2.2, scB_end (by rcases qe with q | q; exact .inl q; exact .inr (by omega))]
        simp)
      by_cases q0 : idj = 0
      · subst q0
        clear qe
        go_wp2_with fail
        go_ret2
        exact ⟨A1, c1, A2, c2, k', o, l, HE.out, by (rw [HNL.out]) <;> rfl, hI.out.1.out, hI.out.1.ids, hI.out.1.bx, by have := hI.out.2.2.2.1; omega, hI.out.1.only⟩
      · have b0 : (idj != 0) = true := bne_iff_ne.2 q0
        obtain rfl : j = many := qe.resolve_left q0
        have b1 : decide ((j : Int) < (j : Int)) = false := decide_eq_false (by omega)
        have b2 : decide (j < j) = false := decide_eq_false (by omega)
        clear qe q0
        go_wp2_with fail
        go_ret2
        exact ⟨A1, c1, A2, c2, k', o, l, HE.out, by (rw [HNL.out]) <;> rfl, hI.out.1.out, hI.out.1.ids, hI.out.1.bx, by have := hI.out.2.2.2.1; omega, hI.out.1.only⟩
    · have q0 : idj ≠ 0 := fun e => qe (.inl e)
      have q1 : j < many := by have := hjm; rcases Nat.lt_or_ge j many with q | q; exact q; exact absurd (.inr (by omega)) qe
      have b0 : (idj != 0) = true := bne_iff_ne.2 q0
      have b1 : decide ((j : Int) < (many : Int)) = true := decide_eq_true (by omega)
      have b2 : decide (j < many) = true := decide_eq_true (by omega)
      have HQ := Aside0.mk (And.intro q0 q1)
      obtain ⟨mj, hmj⟩ : ∃ x, many - j = x + 1 := ⟨many - j - 1, by omega⟩
      have hSB := hI.out.2.2.2.2.2
      rw [hmj] at hSB
      have HSB := Aside0.mk (And.intro hSB hmj)
      clear qe q0 q1 hSB hmj
      go_upto_region 5 with fail
      clear b0 b1 b2
      obtain ⟨bb, hbb⟩ : ∃ x, r.b idj 1 = x := ⟨_, rfl⟩
      obtain ⟨ee, hee⟩ : ∃ x, r.e idj 1 = x := ⟨_, rfl⟩
      have HBE := Aside0.mk (And.intro hbb hee)
      go_cut [7, 8] (fun v7 v8 wx => ∃ (A : Option Addr) (c : Nat), v7 = .slice A bb.length c ∧ v8 = .int .i64 ee ∧ Aside0 (SC w t Box (k' + 1) N (.cells #[.func (.func F) #[] caps, .int .i64 g, .int .i64 id, .int .i64 (many : Int)] 85) A1 c1 o A2 c2 l wx ∧ Bs wx A bb.length c bb))
      case first =>
        have hcall := HR.out.call k' idj 1 wr (HO.out.trans hI.out.1.only) hI.out.1.bx hI.out.2.2.2.2.1 ⟨by omega, by omega⟩
        rw [hbb, hee] at hcall
        clear hbb hee
        rcases HR.out.kind with ⟨rfl, p, rfl, rfl⟩ | ⟨rfl, p, q, rfl, rfl⟩
        · dsimp only at hcall
          go_wp2_with (go_at_call 43; refine hcall.mono ?_; rintro e w3 ⟨A, c, rfl, hB3, _, hx3, ho3⟩; (have H3 := Aside0.mk (And.intro (hI.out.1.read ht hNt ho3 hx3) hB3)); clear hB3 ho3 hx3)
          go_meet
          exact ⟨A, c, rfl, rfl, H3⟩
        · dsimp only at hcall
          go_wp2_with (go_at_call 50; refine hcall.mono ?_; rintro e w3 ⟨A, c, rfl, hB3, _, hx3, ho3⟩; (have H3 := Aside0.mk (And.intro (hI.out.1.read ht hNt ho3 hx3) hB3)); clear hB3 ho3 hx3)
          go_meet
          exact ⟨A, c, rfl, rfl, H3⟩
      case rest =>
        obtain ⟨A, c, rfl, rfl, HC⟩ := hcut
        clear z0 z1 z2 z3 hbb hee
        have hok : ∀ q : scOk r g idj, ee = 0 ∧ hE bb = 0 ∧ hC bb ≤ cpI g ∧ bb.length = 256 ∧ hG bb = g := fun q => by
          unfold scOk at q
          rw [HBE.out.1, HBE.out.2] at q
          exact q
        have HOK := Aside0.mk hok
        clear hok
        by_cases t2 : hE bb = 0
        case neg =>
          have HV := Aside0.mk (show hV bb = #[.int .i64 0, .int .i64 0, .int .i64 0, .int .i64 0] from if_neg t2)
          have b2 : (hE bb != 0) = true := bne_iff_ne.2 t2
          by_cases t1 : ee = 0
          case neg =>
            have HT1 := Aside0.mk t1
            have b1 : (ee != 0) = true := bne_iff_ne.2 t1
            clear t1 t2
            have HE := Aside0.mk (show (scB r g many id).getD ([], []) = ([], []) by
              rw [HSB.out.1, scB_bad HQ.out.1 (fun q => HT1.out (HOK.out q).1)]
              rfl)
            have cH := headOf_any A bb.length c bb wc HC.out.2
            rw [HV.out] at cH
            go_upto_region 7 with (go_at_call 25; refine cH.mono ?_; rintro e w4 ⟨rfl, hB⟩; (have H4 := Aside0.mk (And.intro (HC.out.1.below ht hbx.out hB) (HC.out.2.below hB))); clear hB)
            clear cH
            have hB5 := (Below.refl _ w4).alloc (Nat.le_refl _) (.cells #[.int .i64 0, .int .i64 0, .int .i64 0, .int .i64 0] 53)
            have h5 := H4.out.1.below ht hbx.out hB5
            have hb5 := H4.out.2.below hB5
            have hr5 := heap_alloc_new w4 (.cells #[.int .i64 0, .int .i64 0, .int .i64 0, .int .i64 0] 53)
            obtain ⟨w5, hw5⟩ : ∃ X, w4.alloc (.cells #[.int .i64 0, .int .i64 0, .int .i64 0, .int .i64 0] 53) = X := ⟨_, rfl⟩
            obtain ⟨M, hM⟩ : ∃ X, w4.heap.size = X := ⟨_, rfl⟩
            rw [hw5] at h5 hb5 hr5
            rw [hM] at hr5
            rw [hw5, hM]
            have H5 := Aside0.mk (And.intro h5 (And.intro hr5 hb5))
            clear h5 hr5 hb5 hB5 hw5 hM
            obtain ⟨y0, y1, y2, y3⟩ := item_cells2 H5.out.2.1
            obtain ⟨z0, z1, z2, z3⟩ := item_cells2 H5.out.1.row
            refine wp_region_ext (by kernel_rfl) (by kernel_rfl) ?_
            have a1 := cell_ext y1
            have a2 := cell_ext y2
            have a3 := cell_ext z1
            clear y0 y1 y2 y3 z0 z1 z2 z3
            repeat (go_big_quiet_step (first | (go_at_call 40; exact Calls.ext_of (cap_any g _))))
            refine wpQuiet_nil ?_
            rintro w' ⟨kx, rfl⟩
            clear a1 a2 a3
            have H6 := Aside0.mk (And.intro (H5.out.1.below ht hbx.out kx.bel) (And.intro ((kx.bel.block _ (Array.getElem?_eq_some_iff.1 H5.out.2.1).1).trans H5.out.2.1) (H5.out.2.2.below kx.bel)))
            obtain ⟨w6, hw6⟩ : ∃ X, kx.w = X := ⟨_, rfl⟩
            rw [hw6] at H6
            rw [hw6]
            clear hw6
            clear b1
            go_wp2_with fail
            go_ret2
            exact ⟨none, 0, none, 0, k' + 1, [], [], HE.out, rfl, Ow.nil _ _, Oc.nil _ _ _ _, H6.out.1.bx, by have := hI.out.2.2.2.1; have := HQ.out.2; omega, H6.out.1.only⟩
          case pos =>
            have HT2 := Aside0.mk t2
            have b1 : (ee != 0) = false := by rw [t1]; exact bne_self_eq_false _
            clear t1 t2
            have HE := Aside0.mk (show (scB r g many id).getD ([], []) = ([], []) by
              rw [HSB.out.1, scB_bad HQ.out.1 (fun q => HT2.out (HOK.out q).2.1)]
              rfl)
            have cH := headOf_any A bb.length c bb wc HC.out.2
            rw [HV.out] at cH
            go_upto_region 7 with (go_at_call 25; refine cH.mono ?_; rintro e w4 ⟨rfl, hB⟩; (have H4 := Aside0.mk (And.intro (HC.out.1.below ht hbx.out hB) (HC.out.2.below hB))); clear hB)
            clear cH
            have hB5 := (Below.refl _ w4).alloc (Nat.le_refl _) (.cells #[.int .i64 0, .int .i64 0, .int .i64 0, .int .i64 0] 53)
            have h5 := H4.out.1.below ht hbx.out hB5
            have hb5 := H4.out.2.below hB5
            have hr5 := heap_alloc_new w4 (.cells #[.int .i64 0, .int .i64 0, .int .i64 0, .int .i64 0] 53)
            obtain ⟨w5, hw5⟩ : ∃ X, w4.alloc (.cells #[.int .i64 0, .int .i64 0, .int .i64 0, .int .i64 0] 53) = X := ⟨_, rfl⟩
            obtain ⟨M, hM⟩ : ∃ X, w4.heap.size = X := ⟨_, rfl⟩
            rw [hw5] at h5 hb5 hr5
            rw [hM] at hr5
            rw [hw5, hM]
            have H5 := Aside0.mk (And.intro h5 (And.intro hr5 hb5))
            clear h5 hr5 hb5 hB5 hw5 hM
            obtain ⟨y0, y1, y2, y3⟩ := item_cells2 H5.out.2.1
            obtain ⟨z0, z1, z2, z3⟩ := item_cells2 H5.out.1.row
            refine wp_region_ext (by kernel_rfl) (by kernel_rfl) ?_
            have a1 := cell_ext y1
            have a2 := cell_ext y2
            have a3 := cell_ext z1
            clear y0 y1 y2 y3 z0 z1 z2 z3
            repeat (go_big_quiet_step (first | (go_at_call 40; exact Calls.ext_of (cap_any g _))))
            refine wpQuiet_nil ?_
            rintro w' ⟨kx, rfl⟩
            clear a1 a2 a3
            have H6 := Aside0.mk (And.intro (H5.out.1.below ht hbx.out kx.bel) (And.intro ((kx.bel.block _ (Array.getElem?_eq_some_iff.1 H5.out.2.1).1).trans H5.out.2.1) (H5.out.2.2.below kx.bel)))
            obtain ⟨w6, hw6⟩ : ∃ X, kx.w = X := ⟨_, rfl⟩
            rw [hw6] at H6
            rw [hw6]
            clear hw6
            clear b1
            go_wp2_with fail
            go_ret2
            exact ⟨none, 0, none, 0, k' + 1, [], [], HE.out, rfl, Ow.nil _ _, Oc.nil _ _ _ _, H6.out.1.bx, by have := hI.out.2.2.2.1; have := HQ.out.2; omega, H6.out.1.only⟩
        case pos =>
          have HV := Aside0.mk (show hV bb = #[.int .i64 (hK bb), .int .i64 (hG bb), .int .i64 (hC bb), .int .i64 (hNx bb)] from if_pos t2)
          have b2 : (hE bb != 0) = false := by rw [t2]; exact bne_self_eq_false _
          by_cases t1 : ee = 0
          case neg =>
            have HT1 := Aside0.mk t1
            have b1 : (ee != 0) = true := bne_iff_ne.2 t1
            clear t1 t2
            have HE := Aside0.mk (show (scB r g many id).getD ([], []) = ([], []) by
              rw [HSB.out.1, scB_bad HQ.out.1 (fun q => HT1.out (HOK.out q).1)]
              rfl)
            have cH := headOf_any A bb.length c bb wc HC.out.2
            rw [HV.out] at cH
            go_upto_region 7 with (go_at_call 25; refine cH.mono ?_; rintro e w4 ⟨rfl, hB⟩; (have H4 := Aside0.mk (And.intro (HC.out.1.below ht hbx.out hB) (HC.out.2.below hB))); clear hB)
            clear cH
            have hB5 := (Below.refl _ w4).alloc (Nat.le_refl _) (.cells #[.int .i64 (hK bb), .int .i64 (hG bb), .int .i64 (hC bb), .int .i64 (hNx bb)] 53)
            have h5 := H4.out.1.below ht hbx.out hB5
            have hb5 := H4.out.2.below hB5
            have hr5 := heap_alloc_new w4 (.cells #[.int .i64 (hK bb), .int .i64 (hG bb), .int .i64 (hC bb), .int .i64 (hNx bb)] 53)
            obtain ⟨w5, hw5⟩ : ∃ X, w4.alloc (.cells #[.int .i64 (hK bb), .int .i64 (hG bb), .int .i64 (hC bb), .int .i64 (hNx bb)] 53) = X := ⟨_, rfl⟩
            obtain ⟨M, hM⟩ : ∃ X, w4.heap.size = X := ⟨_, rfl⟩
            rw [hw5] at h5 hb5 hr5
            rw [hM] at hr5
            rw [hw5, hM]
            have H5 := Aside0.mk (And.intro h5 (And.intro hr5 hb5))
            clear h5 hr5 hb5 hB5 hw5 hM
            obtain ⟨y0, y1, y2, y3⟩ := item_cells2 H5.out.2.1
            obtain ⟨z0, z1, z2, z3⟩ := item_cells2 H5.out.1.row
            refine wp_region_ext (by kernel_rfl) (by kernel_rfl) ?_
            have a1 := cell_ext y1
            have a2 := cell_ext y2
            have a3 := cell_ext z1
            clear y0 y1 y2 y3 z0 z1 z2 z3
            repeat (go_big_quiet_step (first | (go_at_call 40; exact Calls.ext_of (cap_any g _))))
            refine wpQuiet_nil ?_
            rintro w' ⟨kx, rfl⟩
            clear a1 a2 a3
            have H6 := Aside0.mk (And.intro (H5.out.1.below ht hbx.out kx.bel) (And.intro ((kx.bel.block _ (Array.getElem?_eq_some_iff.1 H5.out.2.1).1).trans H5.out.2.1) (H5.out.2.2.below kx.bel)))
            obtain ⟨w6, hw6⟩ : ∃ X, kx.w = X := ⟨_, rfl⟩
            rw [hw6] at H6
            rw [hw6]
            clear hw6
            clear b1
            go_wp2_with fail
            go_ret2
            exact ⟨none, 0, none, 0, k' + 1, [], [], HE.out, rfl, Ow.nil _ _, Oc.nil _ _ _ _, H6.out.1.bx, by have := hI.out.2.2.2.1; have := HQ.out.2; omega, H6.out.1.only⟩
          case pos =>
            have b1 : (ee != 0) = false := by rw [t1]; exact bne_self_eq_false _
            by_cases t3 : hC bb ≤ cpI g
            case neg =>
              have HT3 := Aside0.mk t3
              have b3 : decide (cpI g < hC bb) = true := decide_eq_true (by omega)
              clear t1 t2 t3
              have HE := Aside0.mk (show (scB r g many id).getD ([], []) = ([], []) by
                rw [HSB.out.1, scB_bad HQ.out.1 (fun q => HT3.out (HOK.out q).2.2.1)]
                rfl)
              have cH := headOf_any A bb.length c bb wc HC.out.2
              rw [HV.out] at cH
              go_upto_region 7 with (go_at_call 25; refine cH.mono ?_; rintro e w4 ⟨rfl, hB⟩; (have H4 := Aside0.mk (And.intro (HC.out.1.below ht hbx.out hB) (HC.out.2.below hB))); clear hB)
              clear cH
              have hB5 := (Below.refl _ w4).alloc (Nat.le_refl _) (.cells #[.int .i64 (hK bb), .int .i64 (hG bb), .int .i64 (hC bb), .int .i64 (hNx bb)] 53)
              have h5 := H4.out.1.below ht hbx.out hB5
              have hb5 := H4.out.2.below hB5
              have hr5 := heap_alloc_new w4 (.cells #[.int .i64 (hK bb), .int .i64 (hG bb), .int .i64 (hC bb), .int .i64 (hNx bb)] 53)
              obtain ⟨w5, hw5⟩ : ∃ X, w4.alloc (.cells #[.int .i64 (hK bb), .int .i64 (hG bb), .int .i64 (hC bb), .int .i64 (hNx bb)] 53) = X := ⟨_, rfl⟩
              obtain ⟨M, hM⟩ : ∃ X, w4.heap.size = X := ⟨_, rfl⟩
              rw [hw5] at h5 hb5 hr5
              rw [hM] at hr5
              rw [hw5, hM]
              have H5 := Aside0.mk (And.intro h5 (And.intro hr5 hb5))
              clear h5 hr5 hb5 hB5 hw5 hM
              obtain ⟨y0, y1, y2, y3⟩ := item_cells2 H5.out.2.1
              obtain ⟨z0, z1, z2, z3⟩ := item_cells2 H5.out.1.row
              refine wp_region_ext (by kernel_rfl) (by kernel_rfl) ?_
              have a1 := cell_ext y1
              have a2 := cell_ext y2
              have a3 := cell_ext z1
              clear y0 y1 y2 y3 z0 z1 z2 z3
              repeat (go_big_quiet_step (first | (go_at_call 40; exact Calls.ext_of (cap_any g _))))
              refine wpQuiet_nil ?_
              rintro w' ⟨kx, rfl⟩
              clear a1 a2 a3
              have H6 := Aside0.mk (And.intro (H5.out.1.below ht hbx.out kx.bel) (And.intro ((kx.bel.block _ (Array.getElem?_eq_some_iff.1 H5.out.2.1).1).trans H5.out.2.1) (H5.out.2.2.below kx.bel)))
              obtain ⟨w6, hw6⟩ : ∃ X, kx.w = X := ⟨_, rfl⟩
              rw [hw6] at H6
              rw [hw6]
              clear hw6
              clear b3
              go_wp2_with fail
              go_ret2
              exact ⟨none, 0, none, 0, k' + 1, [], [], HE.out, rfl, Ow.nil _ _, Oc.nil _ _ _ _, H6.out.1.bx, by have := hI.out.2.2.2.1; have := HQ.out.2; omega, H6.out.1.only⟩
            case pos =>
              have b3 : decide (cpI g < hC bb) = false := decide_eq_false (by omega)
              by_cases t4 : bb.length = 256
              case neg =>
                have HT4 := Aside0.mk t4
                have b4 : ((bb.length : Int) != 256) = true := bne_iff_ne.2 (by omega)
                have b4' : (bb.length != 256) = true := bne_iff_ne.2 t4
                clear t1 t2 t3 t4
                have HE := Aside0.mk (show (scB r g many id).getD ([], []) = ([], []) by
                  rw [HSB.out.1, scB_bad HQ.out.1 (fun q => HT4.out (HOK.out q).2.2.2.1)]
                  rfl)
                have cH := headOf_any A bb.length c bb wc HC.out.2
                rw [HV.out] at cH
                go_upto_region 7 with (go_at_call 25; refine cH.mono ?_; rintro e w4 ⟨rfl, hB⟩; (have H4 := Aside0.mk (And.intro (HC.out.1.below ht hbx.out hB) (HC.out.2.below hB))); clear hB)
                clear cH
                have hB5 := (Below.refl _ w4).alloc (Nat.le_refl _) (.cells #[.int .i64 (hK bb), .int .i64 (hG bb), .int .i64 (hC bb), .int .i64 (hNx bb)] 53)
                have h5 := H4.out.1.below ht hbx.out hB5
                have hb5 := H4.out.2.below hB5
                have hr5 := heap_alloc_new w4 (.cells #[.int .i64 (hK bb), .int .i64 (hG bb), .int .i64 (hC bb), .int .i64 (hNx bb)] 53)
                obtain ⟨w5, hw5⟩ : ∃ X, w4.alloc (.cells #[.int .i64 (hK bb), .int .i64 (hG bb), .int .i64 (hC bb), .int .i64 (hNx bb)] 53) = X := ⟨_, rfl⟩
                obtain ⟨M, hM⟩ : ∃ X, w4.heap.size = X := ⟨_, rfl⟩
                rw [hw5] at h5 hb5 hr5
                rw [hM] at hr5
                rw [hw5, hM]
                have H5 := Aside0.mk (And.intro h5 (And.intro hr5 hb5))
                clear h5 hr5 hb5 hB5 hw5 hM
                obtain ⟨y0, y1, y2, y3⟩ := item_cells2 H5.out.2.1
                obtain ⟨z0, z1, z2, z3⟩ := item_cells2 H5.out.1.row
                refine wp_region_ext (by kernel_rfl) (by kernel_rfl) ?_
                have a1 := cell_ext y1
                have a2 := cell_ext y2
                have a3 := cell_ext z1
                clear y0 y1 y2 y3 z0 z1 z2 z3
                repeat (go_big_quiet_step (first | (go_at_call 40; exact Calls.ext_of (cap_any g _))))
                refine wpQuiet_nil ?_
                rintro w' ⟨kx, rfl⟩
                clear a1 a2 a3
                have H6 := Aside0.mk (And.intro (H5.out.1.below ht hbx.out kx.bel) (And.intro ((kx.bel.block _ (Array.getElem?_eq_some_iff.1 H5.out.2.1).1).trans H5.out.2.1) (H5.out.2.2.below kx.bel)))
                obtain ⟨w6, hw6⟩ : ∃ X, kx.w = X := ⟨_, rfl⟩
                rw [hw6] at H6
                rw [hw6]
                clear hw6
                clear b4
                go_wp2_with fail
                go_ret2
                exact ⟨none, 0, none, 0, k' + 1, [], [], HE.out, rfl, Ow.nil _ _, Oc.nil _ _ _ _, H6.out.1.bx, by have := hI.out.2.2.2.1; have := HQ.out.2; omega, H6.out.1.only⟩
              case pos =>
                have b4 : ((bb.length : Int) != 256) = false := by rw [t4]; rfl
                have b4' : (bb.length != 256) = false := by rw [t4]; rfl
                by_cases t5 : hG bb = g
                case neg =>
                  have HT5 := Aside0.mk t5
                  have b5 : (hG bb != g) = true := bne_iff_ne.2 t5
                  clear t1 t2 t3 t4
                  have HE := Aside0.mk (show (scB r g many id).getD ([], []) = ([], []) by
                    rw [HSB.out.1, scB_bad HQ.out.1 (fun q => HT5.out (HOK.out q).2.2.2.2)]
                    rfl)
                  have cH := headOf_any A bb.length c bb wc HC.out.2
                  rw [HV.out] at cH
                  go_upto_region 7 with (go_at_call 25; refine cH.mono ?_; rintro e w4 ⟨rfl, hB⟩; (have H4 := Aside0.mk (And.intro (HC.out.1.below ht hbx.out hB) (HC.out.2.below hB))); clear hB)
                  clear cH
                  have hB5 := (Below.refl _ w4).alloc (Nat.le_refl _) (.cells #[.int .i64 (hK bb), .int .i64 (hG bb), .int .i64 (hC bb), .int .i64 (hNx bb)] 53)
                  have h5 := H4.out.1.below ht hbx.out hB5
                  have hb5 := H4.out.2.below hB5
                  have hr5 := heap_alloc_new w4 (.cells #[.int .i64 (hK bb), .int .i64 (hG bb), .int .i64 (hC bb), .int .i64 (hNx bb)] 53)
                  obtain ⟨w5, hw5⟩ : ∃ X, w4.alloc (.cells #[.int .i64 (hK bb), .int .i64 (hG bb), .int .i64 (hC bb), .int .i64 (hNx bb)] 53) = X := ⟨_, rfl⟩
                  obtain ⟨M, hM⟩ : ∃ X, w4.heap.size = X := ⟨_, rfl⟩
                  rw [hw5] at h5 hb5 hr5
                  rw [hM] at hr5
                  rw [hw5, hM]
                  have H5 := Aside0.mk (And.intro h5 (And.intro hr5 hb5))
                  clear h5 hr5 hb5 hB5 hw5 hM
                  obtain ⟨y0, y1, y2, y3⟩ := item_cells2 H5.out.2.1
                  obtain ⟨z0, z1, z2, z3⟩ := item_cells2 H5.out.1.row
                  refine wp_region_ext (by kernel_rfl) (by kernel_rfl) ?_
                  have a1 := cell_ext y1
                  have a2 := cell_ext y2
                  have a3 := cell_ext z1
                  clear y0 y1 y2 y3 z0 z1 z2 z3
                  repeat (go_big_quiet_step (first | (go_at_call 40; exact Calls.ext_of (cap_any g _))))
                  refine wpQuiet_nil ?_
                  rintro w' ⟨kx, rfl⟩
                  clear a1 a2 a3
                  have H6 := Aside0.mk (And.intro (H5.out.1.below ht hbx.out kx.bel) (And.intro ((kx.bel.block _ (Array.getElem?_eq_some_iff.1 H5.out.2.1).1).trans H5.out.2.1) (H5.out.2.2.below kx.bel)))
                  obtain ⟨w6, hw6⟩ : ∃ X, kx.w = X := ⟨_, rfl⟩
                  rw [hw6] at H6
                  rw [hw6]
                  clear hw6
                  clear b5
                  go_wp2_with fail
                  go_ret2
                  exact ⟨none, 0, none, 0, k' + 1, [], [], HE.out, rfl, Ow.nil _ _, Oc.nil _ _ _ _, H6.out.1.bx, by have := hI.out.2.2.2.1; have := HQ.out.2; omega, H6.out.1.only⟩
                case pos =>
                  have HT := Aside0.mk (And.intro t1 (And.intro t2 (And.intro t3 (And.intro t4 t5))))
                  have hok2 : scOk r g idj := by
                    unfold scOk
                    rw [HBE.out.1, HBE.out.2]
                    exact ⟨t1, t2, t3, t4, t5⟩
                  have HST := Aside0.mk (scB_step (k := mj) HQ.out.1 hok2)
                  have b5 : (hG bb != g) = false := by rw [t5]; exact bne_self_eq_false _
                  clear t1 t2 t3 t4 t5 hok2
                  have cH := headOf_any A bb.length c bb wc HC.out.2
                  rw [HV.out] at cH
                  go_upto_region 7 with (go_at_call 25; refine cH.mono ?_; rintro e w4 ⟨rfl, hB⟩; (have H4 := Aside0.mk (And.intro (HC.out.1.below ht hbx.out hB) (HC.out.2.below hB))); clear hB)
                  clear cH
                  have hB5 := (Below.refl _ w4).alloc (Nat.le_refl _) (.cells #[.int .i64 (hK bb), .int .i64 (hG bb), .int .i64 (hC bb), .int .i64 (hNx bb)] 53)
                  have h5 := H4.out.1.below ht hbx.out hB5
                  have hb5 := H4.out.2.below hB5
                  have hr5 := heap_alloc_new w4 (.cells #[.int .i64 (hK bb), .int .i64 (hG bb), .int .i64 (hC bb), .int .i64 (hNx bb)] 53)
                  obtain ⟨w5, hw5⟩ : ∃ X, w4.alloc (.cells #[.int .i64 (hK bb), .int .i64 (hG bb), .int .i64 (hC bb), .int .i64 (hNx bb)] 53) = X := ⟨_, rfl⟩
                  obtain ⟨M, hM⟩ : ∃ X, w4.heap.size = X := ⟨_, rfl⟩
                  rw [hw5] at h5 hb5 hr5
                  rw [hM] at hr5
                  rw [hw5, hM]
                  have H5 := Aside0.mk (And.intro h5 (And.intro hr5 hb5))
                  clear h5 hr5 hb5 hB5 hw5 hM
                  obtain ⟨y0, y1, y2, y3⟩ := item_cells2 H5.out.2.1
                  obtain ⟨z0, z1, z2, z3⟩ := item_cells2 H5.out.1.row
                  refine wp_region_ext (by kernel_rfl) (by kernel_rfl) ?_
                  have a1 := cell_ext y1
                  have a2 := cell_ext y2
                  have a3 := cell_ext z1
                  clear y0 y1 y2 y3 z0 z1 z2 z3
                  repeat (go_big_quiet_step (first | (go_at_call 40; exact Calls.ext_of (cap_any g _))))
                  refine wpQuiet_nil ?_
                  rintro w' ⟨kx, rfl⟩
                  clear a1 a2 a3
                  have H6 := Aside0.mk (And.intro (H5.out.1.below ht hbx.out kx.bel) (And.intro ((kx.bel.block _ (Array.getElem?_eq_some_iff.1 H5.out.2.1).1).trans H5.out.2.1) (H5.out.2.2.below kx.bel)))
                  obtain ⟨w6, hw6⟩ : ∃ X, kx.w = X := ⟨_, rfl⟩
                  rw [hw6] at H6
                  rw [hw6]
                  clear hw6
                  clear b1 b2 b3 b4 b4' b5
                  have hlc := hC_lim bb
                  have hbl : (bodyL bb).length = (cpI g).toNat := by
                    unfold bodyL
                    rw [if_pos ⟨HT.out.2.1, HT.out.2.2.2.1⟩, List.length_drop, HT.out.2.2.2.1, HT.out.2.2.2.2]
                    have := (hd_len 79 g 0 0 hg).2.1
                    omega
                  have hcc : (hC bb).toNat ≤ (bodyL bb).length := by have := HT.out.2.2.1; omega
                  have HBL := Aside0.mk (And.intro hbl hcc)
                  clear hbl
                  go_upto_region 9 with fail
                  have h7 := H6.out.1.below ht hbx.out (below_drew (Below.refl _ w6))
                  have hb7 := H6.out.2.2.below (below_drew (Below.refl _ w6))
                  have hm7 : w6.drew.heap[M]? = some (.cells #[.int .i64 (hK bb), .int .i64 (hG bb), .int .i64 (hC bb), .int .i64 (hNx bb)] 53) := H6.out.2.1
                  obtain ⟨x0, hx0⟩ : ∃ X, w6.drew = X := ⟨_, rfl⟩
                  rw [hx0] at h7 hb7 hm7
                  have H7 := Aside0.mk (And.intro h7 (And.intro hm7 hb7))
                  clear h7 hb7 hm7
                  refine wp_region_M (fun j => decide (j < 8)) (fun w' => w'.cell? ⟨M, 2, none⟩ = some (.int .i64 (hC bb))) (by kernel_rfl) ?_
                  rw [hx0]
                  clear hx0
                  refine wpAnyM_take (i := 0) (v := ?_) (by simp only [List.getElem?_toArray, List.getElem?_cons_succ, List.getElem?_cons_zero]; rfl) (by kernel_rfl) (by kernel_rfl) (by kernel_rfl) (by kernel_rfl) (by exact fun _ _ _ h => h) (Or.inl ⟨by rfl, ?_⟩) (item_cells2 H7.out.2.1).2.2.1 ?_
                  rotate_left
                  · (intro w' hSw; (try dsimp only at hSw); go_simp; try with_reducible rfl)
                  try simp only [Act.put, List.setIfInBounds_toArray, List.set_cons_zero, List.set_cons_succ]
                  refine wpAnyM_take (i := 1) (v := ?_) (by simp only [List.getElem?_toArray, List.getElem?_cons_succ, List.getElem?_cons_zero]; rfl) (by kernel_rfl) (by kernel_rfl) (by kernel_rfl) (by kernel_rfl) (by exact fun _ _ _ h => h) (Or.inl ⟨by rfl, ?_⟩) (item_cells2 H7.out.2.1).2.2.1 ?_
                  rotate_left
                  · (intro w' hSw; (try dsimp only at hSw); go_simp; try with_reducible rfl)
                  try simp only [Act.put, List.setIfInBounds_toArray, List.set_cons_zero, List.set_cons_succ]
                  refine wpAnyM_take (i := 3) (v := ?_) (by simp only [List.getElem?_toArray, List.getElem?_cons_succ, List.getElem?_cons_zero]; rfl) (by kernel_rfl) (by kernel_rfl) (by kernel_rfl) (by kernel_rfl) (by exact fun _ _ _ h => h) (Or.inl ⟨by rfl, ?_⟩) (item_cells2 H7.out.2.1).2.2.1 ?_
                  rotate_left
                  · (intro w' hSw; (try dsimp only at hSw); go_simp; try with_reducible rfl)
                  try simp only [Act.put, List.setIfInBounds_toArray, List.set_cons_zero, List.set_cons_succ]
                  refine wpAnyM_take (i := 4) (v := ?_) (by simp only [List.getElem?_toArray, List.getElem?_cons_succ, List.getElem?_cons_zero]; rfl) (by kernel_rfl) (by kernel_rfl) (by kernel_rfl) (by kernel_rfl) (by exact fun _ _ _ h => h) (Or.inl ⟨by rfl, ?_⟩) (item_cells2 H7.out.2.1).2.2.1 ?_
                  rotate_left
                  · (intro w' hSw; (try dsimp only at hSw); go_simp; try with_reducible rfl)
                  try simp only [Act.put, List.setIfInBounds_toArray, List.set_cons_zero, List.set_cons_succ]
                  refine wpAnyM_one (i := 2) (by kernel_rfl) (by simp only [List.getElem?_toArray, List.getElem?_cons_succ, List.getElem?_cons_zero]; rfl) ?_
                  go_wp2_with (go_at_call 27; refine (body_any A bb.length c bb x0 H7.out.2.2).mono ?_; rintro e x1 ⟨A7, c7, rfl, hO, hB⟩; (have H8 := Aside0.mk (And.intro (H7.out.1.below ht hbx.out hB) (And.intro ((hB.block _ (Array.getElem?_eq_some_iff.1 H7.out.2.1).1).trans H7.out.2.1) hO))); clear hO hB)
                  refine ⟨(item_cells2 H8.out.2.1).2.2.1, ?_⟩
                  try simp only [Act.put, List.setIfInBounds_toArray, List.set_cons_zero, List.set_cons_succ]
                  obtain ⟨nb, hnb⟩ : ∃ n, (bodyL bb).length = n := ⟨_, rfl⟩
                  rw [hnb] at hcc
                  rw [hnb]
                  have sl := fun W => sl8_h W A7 nb c7 .i64 (hC bb) hlc.1 (by have := H8.out.2.2.bs.le; omega)
                  have HNBB := Aside0.mk hnb
                  clear hnb
                  refine wpAnyM_take (i := 5) (v := ?_) (by simp only [List.getElem?_toArray, List.getElem?_cons_succ, List.getElem?_cons_zero]; rfl) (by kernel_rfl) (by kernel_rfl) (by kernel_rfl) (by kernel_rfl) (by exact fun _ _ _ h => h) (Or.inl ⟨by rfl, ?_⟩) (item_cells2 H8.out.2.1).2.2.1 ?_
                  rotate_left
                  · (intro w' hSw; (try dsimp only at hSw); go_simp; try with_reducible rfl)
                  try simp only [Act.put, List.setIfInBounds_toArray, List.set_cons_zero, List.set_cons_succ]
                  refine wpAnyM_one (i := 6) (by kernel_rfl) (by simp only [List.getElem?_toArray, List.getElem?_cons_succ, List.getElem?_cons_zero]; rfl) ?_
                  have hOb : Ow x1 w.heap.size A7 nb c7 (bodyL bb) := by
                    rw [← HNBB.out]
                    exact H8.out.2.2.mono H7.out.1.only.size
                  refine wpl_app8 (w0 := x1) w.heap.size (by rfl) (.tmp 60) (.tmp 65) (by rfl) A1 o.length c1 o A7 (hC bb).toNat c7 ((bodyL bb).take (hC bb).toNat) (by rfl) (by rfl) H8.out.1.out (hOb.bs.take _ hcc) (Below.refl _ _) H8.out.1.only.size (by have := hI.out.2.2.1; omega) ?_
                  intro A9 c9 w9 hO9 hB9 hg9 hat9
                  have hol : (o ++ (bodyL bb).take (hC bb).toNat).length = o.length + (hC bb).toNat := by
                    rw [List.length_append, List.length_take, HNBB.out]
                    omega
                  have hO9' : Ow w9 w.heap.size A9 (o ++ (bodyL bb).take (hC bb).toNat).length c9 (o ++ (bodyL bb).take (hC bb).toNat) := by rw [hol]; exact hO9
                  have h9 := H8.out.1.app ht hbx.out (by decide) hg9 hO9'
                  have hm9 := row_app H8.out.1.out H8.out.2.1 (by decide) hg9
                  have H9 := Aside0.mk (And.intro h9 (And.intro hm9 hol))
                  clear h9 hm9 hol hO9 hO9' hB9 hg9 hat9 hOb
                  refine wpl_nil ⟨rfl, fun _ => (item_cells2 H9.out.2.1).2.2.1, ?_⟩
                  try simp only [Act.put, List.setIfInBounds_toArray, List.set_cons_zero, List.set_cons_succ]
                  refine wpAnyM_take (i := 7) (v := ?_) (by simp only [List.getElem?_toArray, List.getElem?_cons_succ, List.getElem?_cons_zero]; rfl) (by kernel_rfl) (by kernel_rfl) (by kernel_rfl) (by kernel_rfl) (by exact fun _ _ _ h => h) (Or.inl ⟨by rfl, ?_⟩) (item_cells2 H9.out.2.1).2.2.1 ?_
                  rotate_left
                  · (intro w' hSw; (try dsimp only at hSw); go_simp; try with_reducible rfl)
                  try simp only [Act.put, List.setIfInBounds_toArray, List.set_cons_zero, List.set_cons_succ]
                  refine wpAnyM_done (by kernel_rfl) ?_ _
                  clear sl
                  have hOi : Oc w9 w.heap.size 3 1 A2 j c2 (iv l) := by
                    have h := H9.out.1.ids
                    rw [HNL.out] at h
                    exact h
                  have HOI := Aside0.mk hOi
                  clear hOi
                  go_wp2_with (at_builtin; refine wpl_oc w.heap.size rfl _ _ 28 3 (.int .i64 0) 1 8 rfl Try.underlying28 infoI rfl (by omega) (by omega) (by omega) A2 j _ w9.heap.size (iv l) [.int .i64 idj] rfl rfl (HOI.out.below ((Below.refl _ w9).alloc (Nat.le_refl _) _)) rfl (lit1_range _ _) (iv_one [idj]) (by have := H9.out.1.only.size; simp; omega) (by omega) ?_; intro A10 c10 w10 hO hG hA; (have hm10 := (item_cells2 (row_add (HOI.out.below ((Below.refl _ w9).alloc (Nat.le_refl _) _)) ((Below.heap_alloc w9 _ M (Array.getElem?_eq_some_iff.1 H9.out.2.1).1).trans H9.out.2.1) (by decide) hG.out)).2.2.2))
                  go_roundg (many - (j + 1))
                  case measure => have := hk.out; have := HQ.out.2; omega
                  case rel =>
                    have hal := (Below.refl w9.heap.size w9).alloc (Nat.le_refl _) (.cells #[.int .i64 idj] 3)
                    have h10 : SC w t Box (k' + 1) N (.cells #[.func (.func F) #[] caps, .int .i64 g, .int .i64 id, .int .i64 (many : Int)] 85) A9 c9 (o ++ (bodyL bb).take (hC bb).toNat) A10 c10 (l ++ [idj]) w10 := by
                      refine (H9.out.1.below ht hbx.out hal).add ht hbx.out (by decide) hG.out ?_
                      rw [List.length_append, HNL.out, iv_app]
                      exact hO.out
                    refine ⟨j + 1, A9, c9, o ++ (bodyL bb).take (hC bb).toNat, A10, c10, l ++ [idj], hNx bb, k' + 1, (by show many - (j + 1) + (j + 1) = many; have := HQ.out.2; omega), (by rw [H9.out.2.2]), (by rw [List.length_append, HNL.out]; rfl), rfl, ⟨h10, (by rw [List.length_append, HNL.out]; rfl), (by rw [H9.out.2.2]; have := hI.out.2.2.1; have := HBL.out; have h8 : (cpI g).toNat ≤ 256 := (by have := (hd_len 79 g 0 0 hg).2.1; omega); omega), (by have := hI.out.2.2.2.1; omega), hNx_bnd HT.out.2.1, ?_⟩⟩
                    rw [HSB.out.1, HST.out, HBE.out.1, Option.map_map, show many - (j + 1) = mj by have := HSB.out.2; omega]
                    congr 1
                    funext p
                    show (o ++ (scV r idj ++ p.1), l ++ (idj :: p.2)) = _
                    unfold scV
                    rw [HBE.out.1, List.append_assoc, List.append_assoc]
                    rfl
end Go.Proofs.Ytbjfklgmbeaaoaa
