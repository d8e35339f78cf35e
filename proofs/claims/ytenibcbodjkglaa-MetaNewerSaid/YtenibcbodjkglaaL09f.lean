/- The walk of MetaNewer. -/
import Derived.Test.YtenibcbodjkglaaL09e
set_option linter.unusedVariables false
set_option linter.unusedSimpArgs false
namespace Go.Proofs.Ytenibcbodjkglaa
open Go.RowKit

/-- What stands: boxes, and slices of bytes. -/
structure H9 (w : World) (L : List (Nat × Array Value × TypeId)) (B : List (Option Addr × Nat × Nat × List UInt8)) (W : World) : Prop where
  bel : Below w.heap.size w W
  rows : ∀ p, p ∈ L → W.heap[p.1]? = some (.cells p.2.1 p.2.2)
  bs : ∀ q, q ∈ B → Bs W q.1 q.2.1 q.2.2.1 q.2.2.2
theorem H9.step {w W W1 : World} {L : List (Nat × Array Value × TypeId)} {B : List (Option Addr × Nat × Nat × List UInt8)} (h : H9 w L B W) (hB : Below W.heap.size W W1) : H9 w L B W1 :=
  ⟨below_then h.bel h.bel.size hB, fun p hp => (hB.block _ (Array.getElem?_eq_some_iff.1 (h.rows p hp)).1).trans (h.rows p hp), fun q hq => (h.bs q hq).below hB⟩
theorem H9.add {w W : World} {L : List (Nat × Array Value × TypeId)} {B : List (Option Addr × Nat × Nat × List UInt8)} (h : H9 w L B W) (u : Array Value) (T : TypeId) : H9 w ((W.heap.size, u, T) :: L) B (W.alloc (.cells u T)) := by
  have k := h.step ((Below.refl _ W).alloc (Nat.le_refl _) (.cells u T))
  refine ⟨k.bel, fun p hp => ?_, k.bs⟩
  rcases List.mem_cons.1 hp with rfl | hp
  · exact heap_alloc_new W _
  · exact k.rows p hp
theorem H9.byt {w W : World} {L : List (Nat × Array Value × TypeId)} {B : List (Option Addr × Nat × Nat × List UInt8)} (h : H9 w L B W) {A : Option Addr} {n c : Nat} {xs : List UInt8} (hb : Bs W A n c xs) : H9 w L ((A, n, c, xs) :: B) W :=
  ⟨h.bel, h.rows, fun q hq => by
    rcases List.mem_cons.1 hq with rfl | hq
    · exact hb
    · exact h.bs q hq⟩
theorem H9.start (w : World) : H9 w [] [] w := ⟨Below.refl _ _, fun _ h => absurd h List.not_mem_nil, fun _ h => absurd h List.not_mem_nil⟩
/-- Of two metas' bytes, and of nothing, which is chosen. -/
theorem encR_ch {ge ph tg tx rt pg li : Int} {xs : List UInt8} (h : mrightB ge ph tg tx rt pg li xs.length = true) : refE (encR ge ph tg tx rt pg li xs) = 0 ∧ rfN (encR ge ph tg tx rt pg li xs) 0 = tx := ⟨(encR_read h).2.2.2.2.2.2.2.2.2, (encR_read h).2.2.2.2.1⟩
theorem ref_nil : refE [] = 90 := by rw [← dec_ref]; exact dec_nil
theorem ch_l (ge ph tg tx rt pg li : Int) (xs zs : List UInt8) (A : Option Addr) (c : Nat) (B : Option Addr) (m d : Nat) (w : World) (hx : Bs w A 256 c (encR ge ph tg tx rt pg li xs)) (hy : Bs w B m d zs) (hR : mrightB ge ph tg tx rt pg li xs.length = true)
    (h : chAt 0 tx (refE zs) (rfN zs 0) = 0) :
    Calls Try.prog 20 #[.slice A 256 c, .slice B m d] w fun e w' => Below w.heap.size w w' ∧ ∃ A1 c1, e = .returned (.tuple #[.agg #[.int .i64 ge, .int .i64 ph, .int .i64 tg, .int .i64 tx, .int .i64 rt, .int .i64 pg, .int .i64 li, .slice A1 xs.length c1], .int .i64 0, .int .i64 0]) ∧ Bs w' A1 xs.length c1 xs := by
  obtain ⟨_, a1, a2, a3, a4, a5, a6, a7, a8, a9⟩ := encR_read hR
  have hh := mch_left A 256 c _ B m d zs w hx hy (by rw [a9, a4]; exact h) a9
  rw [a1, a2, a3, a4, a5, a6, a7, a8] at hh
  exact hh
theorem ch_r (ge ph tg tx rt pg li : Int) (xs zs : List UInt8) (A : Option Addr) (c : Nat) (B : Option Addr) (m d : Nat) (w : World) (hx : Bs w A 256 c (encR ge ph tg tx rt pg li xs)) (hy : Bs w B m d zs) (hR : mrightB ge ph tg tx rt pg li xs.length = true)
    (h : chAt (refE zs) (rfN zs 0) 0 tx = 1) :
    Calls Try.prog 20 #[.slice B m d, .slice A 256 c] w fun e w' => Below w.heap.size w w' ∧ ∃ A1 c1, e = .returned (.tuple #[.agg #[.int .i64 ge, .int .i64 ph, .int .i64 tg, .int .i64 tx, .int .i64 rt, .int .i64 pg, .int .i64 li, .slice A1 xs.length c1], .int .i64 1, .int .i64 0]) ∧ Bs w' A1 xs.length c1 xs := by
  obtain ⟨_, a1, a2, a3, a4, a5, a6, a7, a8, a9⟩ := encR_read hR
  have hh := mch_right B m d zs A 256 c _ w hy hx (by rw [a9, a4]; exact h) a9
  rw [a1, a2, a3, a4, a5, a6, a7, a8] at hh
  exact hh
set_option maxHeartbeats 20000000 in
set_option maxRecDepth 100000 in
theorem metaNewer_walk (ge ph tg tx rt pg li : Int) (A : Option Addr) (n c : Nat) (xs : List UInt8) (ge' ph' tg' tx' rt' pg' li' : Int) (A' : Option Addr) (n' c' : Nat) (ys : List UInt8) (w : World) (hx : Bs w A n c xs) (hy : Bs w A' n' c' ys) :
    Calls Try.prog 8 #[.agg #[.int .i64 ge, .int .i64 ph, .int .i64 tg, .int .i64 tx, .int .i64 rt, .int .i64 pg, .int .i64 li, .slice A n c], .agg #[.int .i64 ge', .int .i64 ph', .int .i64 tg', .int .i64 tx', .int .i64 rt', .int .i64 pg', .int .i64 li', .slice A' n' c']] w fun e w' => e = .returned (.bool true) ∧ Below w.heap.size w w' := by
  obtain rfl := hx.len
  obtain rfl := hy.len
  have HH := Aside0.mk (((((H9.start w).byt hx).byt hy).add #[.int .i64 ge, .int .i64 ph, .int .i64 tg, .int .i64 tx, .int .i64 rt, .int .i64 pg, .int .i64 li, .slice A xs.length c] 24).add #[.int .i64 ge', .int .i64 ph', .int .i64 tg', .int .i64 tx', .int .i64 rt', .int .i64 pg', .int .i64 li', .slice A' ys.length c'] 24)
  simp only [World.size_alloc] at HH
  have HX : ∀ {W : World} {L B}, H9 w L B W → Bs W A xs.length c xs := fun h => hx.below h.bel
  have HY : ∀ {W : World} {L B}, H9 w L B W → Bs W A' ys.length c' ys := fun h => hy.below h.bel
  go_enter Try.func8, Try.ntmps8
  go_upto_region 1 with fail
  obtain ⟨W0, hW0⟩ : ∃ X, (w.alloc (.cells #[.int .i64 ge, .int .i64 ph, .int .i64 tg, .int .i64 tx, .int .i64 rt, .int .i64 pg, .int .i64 li, .slice A xs.length c] 24)).alloc (.cells #[.int .i64 ge', .int .i64 ph', .int .i64 tg', .int .i64 tx', .int .i64 rt', .int .i64 pg', .int .i64 li', .slice A' ys.length c'] 24) = X := ⟨_, rfl⟩
  rw [hW0] at HH ⊢
  clear hW0
  have HH := Aside0.mk HH.out
  (obtain ⟨p0, p1, p2, p3, p4, p5, p6, p7⟩ := row8_cells (HH.out.rows (w.heap.size, #[.int .i64 ge, .int .i64 ph, .int .i64 tg, .int .i64 tx, .int .i64 rt, .int .i64 pg, .int .i64 li, .slice A xs.length c], 24) (by simp)))
  (obtain ⟨q0, q1, q2, q3, q4, q5, q6, q7⟩ := row8_cells (HH.out.rows (w.heap.size + 1, #[.int .i64 ge', .int .i64 ph', .int .i64 tg', .int .i64 tx', .int .i64 rt', .int .i64 pg', .int .i64 li', .slice A' ys.length c'], 24) (by simp)))
  go_wp2_with fail
  cases hR : mrightB ge ph tg tx rt pg li xs.length with
  | true =>
    refine (menc_ok ge ph tg tx rt pg li A xs.length c xs _ (HX HH.out) hR).mono ?_
    rintro e w1 ⟨hB, A1, c1, rfl, hO⟩
    replace HH := Aside0.mk ((HH.out.step hB).byt hO.bs)
    clear hB hO
    clear p0 p1 p2 p3 p4 p5 p6 p7 q0 q1 q2 q3 q4 q5 q6 q7
    (obtain ⟨p0, p1, p2, p3, p4, p5, p6, p7⟩ := row8_cells (HH.out.rows (w.heap.size, #[.int .i64 ge, .int .i64 ph, .int .i64 tg, .int .i64 tx, .int .i64 rt, .int .i64 pg, .int .i64 li, .slice A xs.length c], 24) (by simp)))
    (obtain ⟨q0, q1, q2, q3, q4, q5, q6, q7⟩ := row8_cells (HH.out.rows (w.heap.size + 1, #[.int .i64 ge', .int .i64 ph', .int .i64 tg', .int .i64 tx', .int .i64 rt', .int .i64 pg', .int .i64 li', .slice A' ys.length c'], 24) (by simp)))
    go_wp2_with fail
    cases hS : mrightB ge' ph' tg' tx' rt' pg' li' ys.length with
    | true =>
      refine (menc_ok ge' ph' tg' tx' rt' pg' li' A' ys.length c' ys _ (HY HH.out) hS).mono ?_
      rintro e w1 ⟨hB, A2, c2, rfl, hO⟩
      replace HH := Aside0.mk ((HH.out.step hB).byt hO.bs)
      clear hB hO
      clear p0 p1 p2 p3 p4 p5 p6 p7 q0 q1 q2 q3 q4 q5 q6 q7
      (obtain ⟨p0, p1, p2, p3, p4, p5, p6, p7⟩ := row8_cells (HH.out.rows (w.heap.size, #[.int .i64 ge, .int .i64 ph, .int .i64 tg, .int .i64 tx, .int .i64 rt, .int .i64 pg, .int .i64 li, .slice A xs.length c], 24) (by simp)))
      (obtain ⟨q0, q1, q2, q3, q4, q5, q6, q7⟩ := row8_cells (HH.out.rows (w.heap.size + 1, #[.int .i64 ge', .int .i64 ph', .int .i64 tg', .int .i64 tx', .int .i64 rt', .int .i64 pg', .int .i64 li', .slice A' ys.length c'], 24) (by simp)))
      by_cases ea : tx % 2 = 0
      · have ka : (tx % 2 != 0) = false := by rw [ea]; rfl
        by_cases eb : tx' % 2 = 1
        · have kb : (tx' % 2 != 1) = false := by rw [eb]; rfl
          have ia : tx.tmod 2 = 0 := by rw [Int.tmod_eq_emod_of_nonneg (by have := right_bounds hR; omega), ea]
          have ib : tx'.tmod 2 = 1 := by rw [Int.tmod_eq_emod_of_nonneg (by have := right_bounds hS; omega), eb]
          obtain ⟨Ea, hEa⟩ : ∃ E, encR ge ph tg tx rt pg li xs = E := ⟨_, rfl⟩
          obtain ⟨Eb, hEb⟩ : ∃ E, encR ge' ph' tg' tx' rt' pg' li' ys = E := ⟨_, rfl⟩
          have rEa := Aside0.mk (show refE Ea = 0 ∧ rfN Ea 0 = tx by rw [← hEa]; exact encR_ch hR)
          have rEb := Aside0.mk (show refE Eb = 0 ∧ rfN Eb 0 = tx' by rw [← hEb]; exact encR_ch hS)
          rw [hEa, hEb] at HH
          replace hEa := Aside0.mk hEa
          replace hEb := Aside0.mk hEb
          replace hR := Aside0.mk hR
          replace hS := Aside0.mk hS
          replace ea := Aside0.mk ea
          replace eb := Aside0.mk eb
          go_wp2_with (go_at_call 22; first | ((with_reducible refine (slot_any tx _).mono ?_); rintro e wa ⟨rfl, rfl⟩) | ((with_reducible refine (slot_any tx' _).mono ?_); rintro e wa ⟨rfl, rfl⟩))
          by_cases hg : tx < tx'
          · skip
            have dg : decide (tx < tx') = true := decide_eq_true hg
            have hc : chAt (refE Ea) (rfN Ea 0) 0 tx' = 1 := by
              rw [rEa.out.1, rEa.out.2]
              exact if_pos ⟨rfl, eb.out, fun _ => hg⟩
            replace hg := Aside0.mk hg
            refine (ch_r ge' ph' tg' tx' rt' pg' li' ys Ea A2 c2 A1 256 c1 w1 (by rw [hEb.out]; exact HH.out.bs (A2, 256, c2, Eb) (by simp)) (HH.out.bs (A1, 256, c1, Ea) (by simp)) hS.out hc).mono ?_
            rintro e w2 ⟨hB, A3, c3, rfl, hb⟩
            replace HH := Aside0.mk (((HH.out.step hB).byt hb).add #[.int .i64 ge', .int .i64 ph', .int .i64 tg', .int .i64 tx', .int .i64 rt', .int .i64 pg', .int .i64 li', .slice A3 ys.length c3] 26)
            clear hB hb hc p0 p1 p2 p3 p4 p5 p6 p7 q0 q1 q2 q3 q4 q5 q6 q7
            go_wp2_with fail
            obtain ⟨W2, hW⟩ : ∃ X, w2.alloc (.cells #[.int .i64 ge', .int .i64 ph', .int .i64 tg', .int .i64 tx', .int .i64 rt', .int .i64 pg', .int .i64 li', .slice A3 ys.length c3] 26) = X := ⟨_, rfl⟩
            obtain ⟨gm, hg2⟩ : ∃ k, w2.heap.size = k := ⟨_, rfl⟩
            rw [hW, hg2] at HH
            rw [hW, hg2]
            clear hW hg2
            refine (ch_l ge ph tg tx rt pg li xs [] A1 c1 none 0 0 W2 (by rw [hEa.out]; exact HH.out.bs (A1, 256, c1, Ea) (by simp)) (Bs.nil _ _ _ (by omega)) hR.out (by rw [ref_nil]; exact (if_neg (fun k => by omega)).trans (if_pos ⟨rfl, ea.out⟩))).mono ?_
            rintro e w3 ⟨hB, A4, c4, rfl, hb⟩
            replace HH := Aside0.mk (((HH.out.step hB).byt hb).add #[.int .i64 ge, .int .i64 ph, .int .i64 tg, .int .i64 tx, .int .i64 rt, .int .i64 pg, .int .i64 li, .slice A4 xs.length c4] 26)
            clear hB hb
            go_wp2_with fail
            obtain ⟨W3, hW⟩ : ∃ X, w3.alloc (.cells #[.int .i64 ge, .int .i64 ph, .int .i64 tg, .int .i64 tx, .int .i64 rt, .int .i64 pg, .int .i64 li, .slice A4 xs.length c4] 26) = X := ⟨_, rfl⟩
            obtain ⟨gn, hg2⟩ : ∃ k, w3.heap.size = k := ⟨_, rfl⟩
            rw [hW, hg2] at HH
            rw [hW, hg2]
            clear hW hg2
            refine (ch_r ge' ph' tg' tx' rt' pg' li' ys [] A2 c2 none 0 0 W3 (by rw [hEb.out]; exact HH.out.bs (A2, 256, c2, Eb) (by simp)) (Bs.nil _ _ _ (by omega)) hS.out (by rw [ref_nil]; exact if_pos ⟨rfl, eb.out, fun k => by omega⟩)).mono ?_
            rintro e w4 ⟨hB, A5, c5, rfl, hb⟩
            replace HH := Aside0.mk (((HH.out.step hB).byt hb).add #[.int .i64 ge', .int .i64 ph', .int .i64 tg', .int .i64 tx', .int .i64 rt', .int .i64 pg', .int .i64 li', .slice A5 ys.length c5] 26)
            clear hB hb
            obtain ⟨W4, hW⟩ : ∃ X, w4.alloc (.cells #[.int .i64 ge', .int .i64 ph', .int .i64 tg', .int .i64 tx', .int .i64 rt', .int .i64 pg', .int .i64 li', .slice A5 ys.length c5] 26) = X := ⟨_, rfl⟩
            obtain ⟨go, hg2⟩ : ∃ k, w4.heap.size = k := ⟨_, rfl⟩
            rw [hW, hg2] at HH
            (obtain ⟨p0, p1, p2, p3, p4, p5, p6, p7⟩ := row8_cells (HH.out.rows (w.heap.size, #[.int .i64 ge, .int .i64 ph, .int .i64 tg, .int .i64 tx, .int .i64 rt, .int .i64 pg, .int .i64 li, .slice A xs.length c], 24) (by simp)))
            (obtain ⟨q0, q1, q2, q3, q4, q5, q6, q7⟩ := row8_cells (HH.out.rows (w.heap.size + 1, #[.int .i64 ge', .int .i64 ph', .int .i64 tg', .int .i64 tx', .int .i64 rt', .int .i64 pg', .int .i64 li', .slice A' ys.length c'], 24) (by simp)))
            have HK := Aside0.mk (HH.out.add #[.int .i64 ge, .int .i64 ph, .int .i64 tg, .int .i64 tx, .int .i64 rt, .int .i64 pg, .int .i64 li, .slice A xs.length c] 24)
            obtain ⟨v0, v1, v2, v3, v4, v5, v6, v7⟩ := row8_cells (HK.out.rows (w.heap.size, #[.int .i64 ge, .int .i64 ph, .int .i64 tg, .int .i64 tx, .int .i64 rt, .int .i64 pg, .int .i64 li, .slice A xs.length c], 24) (by simp))
            obtain ⟨x0, x1, x2, x3, x4, x5, x6, x7⟩ := row8_cells (HK.out.rows (w.heap.size + 1, #[.int .i64 ge', .int .i64 ph', .int .i64 tg', .int .i64 tx', .int .i64 rt', .int .i64 pg', .int .i64 li', .slice A' ys.length c'], 24) (by simp))
            have hfr := fun j => Go.Joins.unfrozen_of_block (HK.out.rows (W4.heap.size, #[.int .i64 ge, .int .i64 ph, .int .i64 tg, .int .i64 tx, .int .i64 rt, .int .i64 pg, .int .i64 li, .slice A xs.length c], 24) (by simp)) j
            go_upto_region 11 with fail
            replace HH := Aside0.mk (HH.out.add #[.int .i64 ge', .int .i64 ph', .int .i64 tg', .int .i64 tx', .int .i64 rt', .int .i64 pg', .int .i64 li', .slice A' ys.length c'] 24)
            clear hW hg2 hfr HK p0 p1 p2 p3 p4 p5 p6 p7 q0 q1 q2 q3 q4 q5 q6 q7 v0 v1 v2 v3 v4 v5 v6 v7 x0 x1 x2 x3 x4 x5 x6 x7
            obtain ⟨W5, hW⟩ : ∃ X, W4.alloc (.cells #[.int .i64 ge', .int .i64 ph', .int .i64 tg', .int .i64 tx', .int .i64 rt', .int .i64 pg', .int .i64 li', .slice A' ys.length c'] 24) = X := ⟨_, rfl⟩
            obtain ⟨gw, hg2⟩ : ∃ k, W4.heap.size = k := ⟨_, rfl⟩
            rw [hW, hg2] at HH
            rw [hW, hg2]
            clear hW hg2
            (obtain ⟨p0, p1, p2, p3, p4, p5, p6, p7⟩ := row8_cells (HH.out.rows (w.heap.size, #[.int .i64 ge, .int .i64 ph, .int .i64 tg, .int .i64 tx, .int .i64 rt, .int .i64 pg, .int .i64 li, .slice A xs.length c], 24) (by simp)))
            (obtain ⟨q0, q1, q2, q3, q4, q5, q6, q7⟩ := row8_cells (HH.out.rows (w.heap.size + 1, #[.int .i64 ge', .int .i64 ph', .int .i64 tg', .int .i64 tx', .int .i64 rt', .int .i64 pg', .int .i64 li', .slice A' ys.length c'], 24) (by simp)))
            (obtain ⟨r0, r1, r2, r3, r4, r5, r6, r7⟩ := row8_cells (HH.out.rows (gm, #[.int .i64 ge', .int .i64 ph', .int .i64 tg', .int .i64 tx', .int .i64 rt', .int .i64 pg', .int .i64 li', .slice A3 ys.length c3], 26) (by simp)))
            (obtain ⟨s0, s1, s2, s3, s4, s5, s6, s7⟩ := row8_cells (HH.out.rows (gn, #[.int .i64 ge, .int .i64 ph, .int .i64 tg, .int .i64 tx, .int .i64 rt, .int .i64 pg, .int .i64 li, .slice A4 xs.length c4], 26) (by simp)))
            (obtain ⟨t0, t1, t2, t3, t4, t5, t6, t7⟩ := row8_cells (HH.out.rows (go, #[.int .i64 ge', .int .i64 ph', .int .i64 tg', .int .i64 tx', .int .i64 rt', .int .i64 pg', .int .i64 li', .slice A5 ys.length c5], 26) (by simp)))
            (obtain ⟨u0, u1, u2, u3, u4, u5, u6, u7⟩ := row8_cells (HH.out.rows (gw, #[.int .i64 ge', .int .i64 ph', .int .i64 tg', .int .i64 tx', .int .i64 rt', .int .i64 pg', .int .i64 li', .slice A' ys.length c'], 24) (by simp)))
            have m1 := msame_refl ge ph tg tx rt pg li xs
            have m2 := msame_refl ge' ph' tg' tx' rt' pg' li' ys
            go_wp2_with (first
              | (go_at_call 9; (with_reducible refine (alive09_any _).mono ?_); rintro e wa ⟨rfl, hB⟩; (replace HH := Aside0.mk (HH.out.step hB)); clear hB; (obtain ⟨p0, p1, p2, p3, p4, p5, p6, p7⟩ := row8_cells (HH.out.rows (w.heap.size, #[.int .i64 ge, .int .i64 ph, .int .i64 tg, .int .i64 tx, .int .i64 rt, .int .i64 pg, .int .i64 li, .slice A xs.length c], 24) (by simp))); (obtain ⟨q0, q1, q2, q3, q4, q5, q6, q7⟩ := row8_cells (HH.out.rows (w.heap.size + 1, #[.int .i64 ge', .int .i64 ph', .int .i64 tg', .int .i64 tx', .int .i64 rt', .int .i64 pg', .int .i64 li', .slice A' ys.length c'], 24) (by simp))); (obtain ⟨r0, r1, r2, r3, r4, r5, r6, r7⟩ := row8_cells (HH.out.rows (gm, #[.int .i64 ge', .int .i64 ph', .int .i64 tg', .int .i64 tx', .int .i64 rt', .int .i64 pg', .int .i64 li', .slice A3 ys.length c3], 26) (by simp))); (obtain ⟨s0, s1, s2, s3, s4, s5, s6, s7⟩ := row8_cells (HH.out.rows (gn, #[.int .i64 ge, .int .i64 ph, .int .i64 tg, .int .i64 tx, .int .i64 rt, .int .i64 pg, .int .i64 li, .slice A4 xs.length c4], 26) (by simp))); (obtain ⟨t0, t1, t2, t3, t4, t5, t6, t7⟩ := row8_cells (HH.out.rows (go, #[.int .i64 ge', .int .i64 ph', .int .i64 tg', .int .i64 tx', .int .i64 rt', .int .i64 pg', .int .i64 li', .slice A5 ys.length c5], 26) (by simp))); (obtain ⟨u0, u1, u2, u3, u4, u5, u6, u7⟩ := row8_cells (HH.out.rows (gw, #[.int .i64 ge', .int .i64 ph', .int .i64 tg', .int .i64 tx', .int .i64 rt', .int .i64 pg', .int .i64 li', .slice A' ys.length c'], 24) (by simp))))
              | (go_at_call 18; first
                  | ((with_reducible refine (rmsame_any ge' ph' tg' tx' rt' pg' li' A3 ys.length c3 ys ge' ph' tg' tx' rt' pg' li' A' ys.length c' ys _ (HH.out.bs (A3, ys.length, c3, ys) (by simp)) (HY HH.out)).mono ?_); rintro e wa ⟨rfl, hB⟩; rw [m2]; (replace HH := Aside0.mk (HH.out.step hB)); clear hB; (obtain ⟨p0, p1, p2, p3, p4, p5, p6, p7⟩ := row8_cells (HH.out.rows (w.heap.size, #[.int .i64 ge, .int .i64 ph, .int .i64 tg, .int .i64 tx, .int .i64 rt, .int .i64 pg, .int .i64 li, .slice A xs.length c], 24) (by simp))); (obtain ⟨q0, q1, q2, q3, q4, q5, q6, q7⟩ := row8_cells (HH.out.rows (w.heap.size + 1, #[.int .i64 ge', .int .i64 ph', .int .i64 tg', .int .i64 tx', .int .i64 rt', .int .i64 pg', .int .i64 li', .slice A' ys.length c'], 24) (by simp))); (obtain ⟨r0, r1, r2, r3, r4, r5, r6, r7⟩ := row8_cells (HH.out.rows (gm, #[.int .i64 ge', .int .i64 ph', .int .i64 tg', .int .i64 tx', .int .i64 rt', .int .i64 pg', .int .i64 li', .slice A3 ys.length c3], 26) (by simp))); (obtain ⟨s0, s1, s2, s3, s4, s5, s6, s7⟩ := row8_cells (HH.out.rows (gn, #[.int .i64 ge, .int .i64 ph, .int .i64 tg, .int .i64 tx, .int .i64 rt, .int .i64 pg, .int .i64 li, .slice A4 xs.length c4], 26) (by simp))); (obtain ⟨t0, t1, t2, t3, t4, t5, t6, t7⟩ := row8_cells (HH.out.rows (go, #[.int .i64 ge', .int .i64 ph', .int .i64 tg', .int .i64 tx', .int .i64 rt', .int .i64 pg', .int .i64 li', .slice A5 ys.length c5], 26) (by simp))); (obtain ⟨u0, u1, u2, u3, u4, u5, u6, u7⟩ := row8_cells (HH.out.rows (gw, #[.int .i64 ge', .int .i64 ph', .int .i64 tg', .int .i64 tx', .int .i64 rt', .int .i64 pg', .int .i64 li', .slice A' ys.length c'], 24) (by simp))))
                  | ((with_reducible refine (rmsame_any ge ph tg tx rt pg li A4 xs.length c4 xs ge ph tg tx rt pg li A xs.length c xs _ (HH.out.bs (A4, xs.length, c4, xs) (by simp)) (HX HH.out)).mono ?_); rintro e wa ⟨rfl, hB⟩; rw [m1]; (replace HH := Aside0.mk (HH.out.step hB)); clear hB; (obtain ⟨p0, p1, p2, p3, p4, p5, p6, p7⟩ := row8_cells (HH.out.rows (w.heap.size, #[.int .i64 ge, .int .i64 ph, .int .i64 tg, .int .i64 tx, .int .i64 rt, .int .i64 pg, .int .i64 li, .slice A xs.length c], 24) (by simp))); (obtain ⟨q0, q1, q2, q3, q4, q5, q6, q7⟩ := row8_cells (HH.out.rows (w.heap.size + 1, #[.int .i64 ge', .int .i64 ph', .int .i64 tg', .int .i64 tx', .int .i64 rt', .int .i64 pg', .int .i64 li', .slice A' ys.length c'], 24) (by simp))); (obtain ⟨r0, r1, r2, r3, r4, r5, r6, r7⟩ := row8_cells (HH.out.rows (gm, #[.int .i64 ge', .int .i64 ph', .int .i64 tg', .int .i64 tx', .int .i64 rt', .int .i64 pg', .int .i64 li', .slice A3 ys.length c3], 26) (by simp))); (obtain ⟨s0, s1, s2, s3, s4, s5, s6, s7⟩ := row8_cells (HH.out.rows (gn, #[.int .i64 ge, .int .i64 ph, .int .i64 tg, .int .i64 tx, .int .i64 rt, .int .i64 pg, .int .i64 li, .slice A4 xs.length c4], 26) (by simp))); (obtain ⟨t0, t1, t2, t3, t4, t5, t6, t7⟩ := row8_cells (HH.out.rows (go, #[.int .i64 ge', .int .i64 ph', .int .i64 tg', .int .i64 tx', .int .i64 rt', .int .i64 pg', .int .i64 li', .slice A5 ys.length c5], 26) (by simp))); (obtain ⟨u0, u1, u2, u3, u4, u5, u6, u7⟩ := row8_cells (HH.out.rows (gw, #[.int .i64 ge', .int .i64 ph', .int .i64 tg', .int .i64 tx', .int .i64 rt', .int .i64 pg', .int .i64 li', .slice A' ys.length c'], 24) (by simp))))
                  | ((with_reducible refine (rmsame_any ge' ph' tg' tx' rt' pg' li' A5 ys.length c5 ys ge' ph' tg' tx' rt' pg' li' A' ys.length c' ys _ (HH.out.bs (A5, ys.length, c5, ys) (by simp)) (HY HH.out)).mono ?_); rintro e wa ⟨rfl, hB⟩; rw [m2]; (replace HH := Aside0.mk (HH.out.step hB)); clear hB; (obtain ⟨p0, p1, p2, p3, p4, p5, p6, p7⟩ := row8_cells (HH.out.rows (w.heap.size, #[.int .i64 ge, .int .i64 ph, .int .i64 tg, .int .i64 tx, .int .i64 rt, .int .i64 pg, .int .i64 li, .slice A xs.length c], 24) (by simp))); (obtain ⟨q0, q1, q2, q3, q4, q5, q6, q7⟩ := row8_cells (HH.out.rows (w.heap.size + 1, #[.int .i64 ge', .int .i64 ph', .int .i64 tg', .int .i64 tx', .int .i64 rt', .int .i64 pg', .int .i64 li', .slice A' ys.length c'], 24) (by simp))); (obtain ⟨r0, r1, r2, r3, r4, r5, r6, r7⟩ := row8_cells (HH.out.rows (gm, #[.int .i64 ge', .int .i64 ph', .int .i64 tg', .int .i64 tx', .int .i64 rt', .int .i64 pg', .int .i64 li', .slice A3 ys.length c3], 26) (by simp))); (obtain ⟨s0, s1, s2, s3, s4, s5, s6, s7⟩ := row8_cells (HH.out.rows (gn, #[.int .i64 ge, .int .i64 ph, .int .i64 tg, .int .i64 tx, .int .i64 rt, .int .i64 pg, .int .i64 li, .slice A4 xs.length c4], 26) (by simp))); (obtain ⟨t0, t1, t2, t3, t4, t5, t6, t7⟩ := row8_cells (HH.out.rows (go, #[.int .i64 ge', .int .i64 ph', .int .i64 tg', .int .i64 tx', .int .i64 rt', .int .i64 pg', .int .i64 li', .slice A5 ys.length c5], 26) (by simp))); (obtain ⟨u0, u1, u2, u3, u4, u5, u6, u7⟩ := row8_cells (HH.out.rows (gw, #[.int .i64 ge', .int .i64 ph', .int .i64 tg', .int .i64 tx', .int .i64 rt', .int .i64 pg', .int .i64 li', .slice A' ys.length c'], 24) (by simp))))
              ))
            go_ret
            exact ⟨rfl, HH.out.bel⟩
          · skip
            have dg : decide (tx < tx') = false := decide_eq_false hg
            have hc : chAt 0 tx (refE Eb) (rfN Eb 0) = 0 := by
              rw [rEb.out.1, rEb.out.2]
              exact (if_neg (fun k => hg (k.2.2 ⟨rfl, ea.out⟩))).trans (if_pos ⟨rfl, ea.out⟩)
            replace hg := Aside0.mk hg
            refine (ch_l ge ph tg tx rt pg li xs Eb A1 c1 A2 256 c2 w1 (by rw [hEa.out]; exact HH.out.bs (A1, 256, c1, Ea) (by simp)) (HH.out.bs (A2, 256, c2, Eb) (by simp)) hR.out hc).mono ?_
            rintro e w2 ⟨hB, A3, c3, rfl, hb⟩
            replace HH := Aside0.mk (((HH.out.step hB).byt hb).add #[.int .i64 ge, .int .i64 ph, .int .i64 tg, .int .i64 tx, .int .i64 rt, .int .i64 pg, .int .i64 li, .slice A3 xs.length c3] 26)
            clear hB hb hc p0 p1 p2 p3 p4 p5 p6 p7 q0 q1 q2 q3 q4 q5 q6 q7
            go_wp2_with fail
            obtain ⟨W2, hW⟩ : ∃ X, w2.alloc (.cells #[.int .i64 ge, .int .i64 ph, .int .i64 tg, .int .i64 tx, .int .i64 rt, .int .i64 pg, .int .i64 li, .slice A3 xs.length c3] 26) = X := ⟨_, rfl⟩
            obtain ⟨gm, hg2⟩ : ∃ k, w2.heap.size = k := ⟨_, rfl⟩
            rw [hW, hg2] at HH
            rw [hW, hg2]
            clear hW hg2
            refine (ch_l ge ph tg tx rt pg li xs [] A1 c1 none 0 0 W2 (by rw [hEa.out]; exact HH.out.bs (A1, 256, c1, Ea) (by simp)) (Bs.nil _ _ _ (by omega)) hR.out (by rw [ref_nil]; exact (if_neg (fun k => by omega)).trans (if_pos ⟨rfl, ea.out⟩))).mono ?_
            rintro e w3 ⟨hB, A4, c4, rfl, hb⟩
            replace HH := Aside0.mk (((HH.out.step hB).byt hb).add #[.int .i64 ge, .int .i64 ph, .int .i64 tg, .int .i64 tx, .int .i64 rt, .int .i64 pg, .int .i64 li, .slice A4 xs.length c4] 26)
            clear hB hb
            go_wp2_with fail
            obtain ⟨W3, hW⟩ : ∃ X, w3.alloc (.cells #[.int .i64 ge, .int .i64 ph, .int .i64 tg, .int .i64 tx, .int .i64 rt, .int .i64 pg, .int .i64 li, .slice A4 xs.length c4] 26) = X := ⟨_, rfl⟩
            obtain ⟨gn, hg2⟩ : ∃ k, w3.heap.size = k := ⟨_, rfl⟩
            rw [hW, hg2] at HH
            rw [hW, hg2]
            clear hW hg2
            refine (ch_r ge' ph' tg' tx' rt' pg' li' ys [] A2 c2 none 0 0 W3 (by rw [hEb.out]; exact HH.out.bs (A2, 256, c2, Eb) (by simp)) (Bs.nil _ _ _ (by omega)) hS.out (by rw [ref_nil]; exact if_pos ⟨rfl, eb.out, fun k => by omega⟩)).mono ?_
            rintro e w4 ⟨hB, A5, c5, rfl, hb⟩
            replace HH := Aside0.mk (((HH.out.step hB).byt hb).add #[.int .i64 ge', .int .i64 ph', .int .i64 tg', .int .i64 tx', .int .i64 rt', .int .i64 pg', .int .i64 li', .slice A5 ys.length c5] 26)
            clear hB hb
            obtain ⟨W4, hW⟩ : ∃ X, w4.alloc (.cells #[.int .i64 ge', .int .i64 ph', .int .i64 tg', .int .i64 tx', .int .i64 rt', .int .i64 pg', .int .i64 li', .slice A5 ys.length c5] 26) = X := ⟨_, rfl⟩
            obtain ⟨go, hg2⟩ : ∃ k, w4.heap.size = k := ⟨_, rfl⟩
            rw [hW, hg2] at HH
            (obtain ⟨p0, p1, p2, p3, p4, p5, p6, p7⟩ := row8_cells (HH.out.rows (w.heap.size, #[.int .i64 ge, .int .i64 ph, .int .i64 tg, .int .i64 tx, .int .i64 rt, .int .i64 pg, .int .i64 li, .slice A xs.length c], 24) (by simp)))
            (obtain ⟨q0, q1, q2, q3, q4, q5, q6, q7⟩ := row8_cells (HH.out.rows (w.heap.size + 1, #[.int .i64 ge', .int .i64 ph', .int .i64 tg', .int .i64 tx', .int .i64 rt', .int .i64 pg', .int .i64 li', .slice A' ys.length c'], 24) (by simp)))
            have HK := Aside0.mk (HH.out.add #[.int .i64 ge, .int .i64 ph, .int .i64 tg, .int .i64 tx, .int .i64 rt, .int .i64 pg, .int .i64 li, .slice A xs.length c] 24)
            obtain ⟨v0, v1, v2, v3, v4, v5, v6, v7⟩ := row8_cells (HK.out.rows (w.heap.size, #[.int .i64 ge, .int .i64 ph, .int .i64 tg, .int .i64 tx, .int .i64 rt, .int .i64 pg, .int .i64 li, .slice A xs.length c], 24) (by simp))
            obtain ⟨x0, x1, x2, x3, x4, x5, x6, x7⟩ := row8_cells (HK.out.rows (w.heap.size + 1, #[.int .i64 ge', .int .i64 ph', .int .i64 tg', .int .i64 tx', .int .i64 rt', .int .i64 pg', .int .i64 li', .slice A' ys.length c'], 24) (by simp))
            have hfr := fun j => Go.Joins.unfrozen_of_block (HK.out.rows (W4.heap.size, #[.int .i64 ge, .int .i64 ph, .int .i64 tg, .int .i64 tx, .int .i64 rt, .int .i64 pg, .int .i64 li, .slice A xs.length c], 24) (by simp)) j
            go_upto_region 11 with fail
            replace HH := Aside0.mk (HH.out.add #[.int .i64 ge, .int .i64 ph, .int .i64 tg, .int .i64 tx, .int .i64 rt, .int .i64 pg, .int .i64 li, .slice A xs.length c] 24)
            clear hW hg2 hfr HK p0 p1 p2 p3 p4 p5 p6 p7 q0 q1 q2 q3 q4 q5 q6 q7 v0 v1 v2 v3 v4 v5 v6 v7 x0 x1 x2 x3 x4 x5 x6 x7
            obtain ⟨W5, hW⟩ : ∃ X, W4.alloc (.cells #[.int .i64 ge, .int .i64 ph, .int .i64 tg, .int .i64 tx, .int .i64 rt, .int .i64 pg, .int .i64 li, .slice A xs.length c] 24) = X := ⟨_, rfl⟩
            obtain ⟨gw, hg2⟩ : ∃ k, W4.heap.size = k := ⟨_, rfl⟩
            rw [hW, hg2] at HH
            rw [hW, hg2]
            clear hW hg2
            (obtain ⟨p0, p1, p2, p3, p4, p5, p6, p7⟩ := row8_cells (HH.out.rows (w.heap.size, #[.int .i64 ge, .int .i64 ph, .int .i64 tg, .int .i64 tx, .int .i64 rt, .int .i64 pg, .int .i64 li, .slice A xs.length c], 24) (by simp)))
            (obtain ⟨q0, q1, q2, q3, q4, q5, q6, q7⟩ := row8_cells (HH.out.rows (w.heap.size + 1, #[.int .i64 ge', .int .i64 ph', .int .i64 tg', .int .i64 tx', .int .i64 rt', .int .i64 pg', .int .i64 li', .slice A' ys.length c'], 24) (by simp)))
            (obtain ⟨r0, r1, r2, r3, r4, r5, r6, r7⟩ := row8_cells (HH.out.rows (gm, #[.int .i64 ge, .int .i64 ph, .int .i64 tg, .int .i64 tx, .int .i64 rt, .int .i64 pg, .int .i64 li, .slice A3 xs.length c3], 26) (by simp)))
            (obtain ⟨s0, s1, s2, s3, s4, s5, s6, s7⟩ := row8_cells (HH.out.rows (gn, #[.int .i64 ge, .int .i64 ph, .int .i64 tg, .int .i64 tx, .int .i64 rt, .int .i64 pg, .int .i64 li, .slice A4 xs.length c4], 26) (by simp)))
            (obtain ⟨t0, t1, t2, t3, t4, t5, t6, t7⟩ := row8_cells (HH.out.rows (go, #[.int .i64 ge', .int .i64 ph', .int .i64 tg', .int .i64 tx', .int .i64 rt', .int .i64 pg', .int .i64 li', .slice A5 ys.length c5], 26) (by simp)))
            (obtain ⟨u0, u1, u2, u3, u4, u5, u6, u7⟩ := row8_cells (HH.out.rows (gw, #[.int .i64 ge, .int .i64 ph, .int .i64 tg, .int .i64 tx, .int .i64 rt, .int .i64 pg, .int .i64 li, .slice A xs.length c], 24) (by simp)))
            have m1 := msame_refl ge ph tg tx rt pg li xs
            have m2 := msame_refl ge' ph' tg' tx' rt' pg' li' ys
            go_wp2_with (first
              | (go_at_call 9; (with_reducible refine (alive09_any _).mono ?_); rintro e wa ⟨rfl, hB⟩; (replace HH := Aside0.mk (HH.out.step hB)); clear hB; (obtain ⟨p0, p1, p2, p3, p4, p5, p6, p7⟩ := row8_cells (HH.out.rows (w.heap.size, #[.int .i64 ge, .int .i64 ph, .int .i64 tg, .int .i64 tx, .int .i64 rt, .int .i64 pg, .int .i64 li, .slice A xs.length c], 24) (by simp))); (obtain ⟨q0, q1, q2, q3, q4, q5, q6, q7⟩ := row8_cells (HH.out.rows (w.heap.size + 1, #[.int .i64 ge', .int .i64 ph', .int .i64 tg', .int .i64 tx', .int .i64 rt', .int .i64 pg', .int .i64 li', .slice A' ys.length c'], 24) (by simp))); (obtain ⟨r0, r1, r2, r3, r4, r5, r6, r7⟩ := row8_cells (HH.out.rows (gm, #[.int .i64 ge, .int .i64 ph, .int .i64 tg, .int .i64 tx, .int .i64 rt, .int .i64 pg, .int .i64 li, .slice A3 xs.length c3], 26) (by simp))); (obtain ⟨s0, s1, s2, s3, s4, s5, s6, s7⟩ := row8_cells (HH.out.rows (gn, #[.int .i64 ge, .int .i64 ph, .int .i64 tg, .int .i64 tx, .int .i64 rt, .int .i64 pg, .int .i64 li, .slice A4 xs.length c4], 26) (by simp))); (obtain ⟨t0, t1, t2, t3, t4, t5, t6, t7⟩ := row8_cells (HH.out.rows (go, #[.int .i64 ge', .int .i64 ph', .int .i64 tg', .int .i64 tx', .int .i64 rt', .int .i64 pg', .int .i64 li', .slice A5 ys.length c5], 26) (by simp))); (obtain ⟨u0, u1, u2, u3, u4, u5, u6, u7⟩ := row8_cells (HH.out.rows (gw, #[.int .i64 ge, .int .i64 ph, .int .i64 tg, .int .i64 tx, .int .i64 rt, .int .i64 pg, .int .i64 li, .slice A xs.length c], 24) (by simp))))
              | (go_at_call 18; first
                  | ((with_reducible refine (rmsame_any ge ph tg tx rt pg li A3 xs.length c3 xs ge ph tg tx rt pg li A xs.length c xs _ (HH.out.bs (A3, xs.length, c3, xs) (by simp)) (HX HH.out)).mono ?_); rintro e wa ⟨rfl, hB⟩; rw [m1]; (replace HH := Aside0.mk (HH.out.step hB)); clear hB; (obtain ⟨p0, p1, p2, p3, p4, p5, p6, p7⟩ := row8_cells (HH.out.rows (w.heap.size, #[.int .i64 ge, .int .i64 ph, .int .i64 tg, .int .i64 tx, .int .i64 rt, .int .i64 pg, .int .i64 li, .slice A xs.length c], 24) (by simp))); (obtain ⟨q0, q1, q2, q3, q4, q5, q6, q7⟩ := row8_cells (HH.out.rows (w.heap.size + 1, #[.int .i64 ge', .int .i64 ph', .int .i64 tg', .int .i64 tx', .int .i64 rt', .int .i64 pg', .int .i64 li', .slice A' ys.length c'], 24) (by simp))); (obtain ⟨r0, r1, r2, r3, r4, r5, r6, r7⟩ := row8_cells (HH.out.rows (gm, #[.int .i64 ge, .int .i64 ph, .int .i64 tg, .int .i64 tx, .int .i64 rt, .int .i64 pg, .int .i64 li, .slice A3 xs.length c3], 26) (by simp))); (obtain ⟨s0, s1, s2, s3, s4, s5, s6, s7⟩ := row8_cells (HH.out.rows (gn, #[.int .i64 ge, .int .i64 ph, .int .i64 tg, .int .i64 tx, .int .i64 rt, .int .i64 pg, .int .i64 li, .slice A4 xs.length c4], 26) (by simp))); (obtain ⟨t0, t1, t2, t3, t4, t5, t6, t7⟩ := row8_cells (HH.out.rows (go, #[.int .i64 ge', .int .i64 ph', .int .i64 tg', .int .i64 tx', .int .i64 rt', .int .i64 pg', .int .i64 li', .slice A5 ys.length c5], 26) (by simp))); (obtain ⟨u0, u1, u2, u3, u4, u5, u6, u7⟩ := row8_cells (HH.out.rows (gw, #[.int .i64 ge, .int .i64 ph, .int .i64 tg, .int .i64 tx, .int .i64 rt, .int .i64 pg, .int .i64 li, .slice A xs.length c], 24) (by simp))))
                  | ((with_reducible refine (rmsame_any ge ph tg tx rt pg li A4 xs.length c4 xs ge ph tg tx rt pg li A xs.length c xs _ (HH.out.bs (A4, xs.length, c4, xs) (by simp)) (HX HH.out)).mono ?_); rintro e wa ⟨rfl, hB⟩; rw [m1]; (replace HH := Aside0.mk (HH.out.step hB)); clear hB; (obtain ⟨p0, p1, p2, p3, p4, p5, p6, p7⟩ := row8_cells (HH.out.rows (w.heap.size, #[.int .i64 ge, .int .i64 ph, .int .i64 tg, .int .i64 tx, .int .i64 rt, .int .i64 pg, .int .i64 li, .slice A xs.length c], 24) (by simp))); (obtain ⟨q0, q1, q2, q3, q4, q5, q6, q7⟩ := row8_cells (HH.out.rows (w.heap.size + 1, #[.int .i64 ge', .int .i64 ph', .int .i64 tg', .int .i64 tx', .int .i64 rt', .int .i64 pg', .int .i64 li', .slice A' ys.length c'], 24) (by simp))); (obtain ⟨r0, r1, r2, r3, r4, r5, r6, r7⟩ := row8_cells (HH.out.rows (gm, #[.int .i64 ge, .int .i64 ph, .int .i64 tg, .int .i64 tx, .int .i64 rt, .int .i64 pg, .int .i64 li, .slice A3 xs.length c3], 26) (by simp))); (obtain ⟨s0, s1, s2, s3, s4, s5, s6, s7⟩ := row8_cells (HH.out.rows (gn, #[.int .i64 ge, .int .i64 ph, .int .i64 tg, .int .i64 tx, .int .i64 rt, .int .i64 pg, .int .i64 li, .slice A4 xs.length c4], 26) (by simp))); (obtain ⟨t0, t1, t2, t3, t4, t5, t6, t7⟩ := row8_cells (HH.out.rows (go, #[.int .i64 ge', .int .i64 ph', .int .i64 tg', .int .i64 tx', .int .i64 rt', .int .i64 pg', .int .i64 li', .slice A5 ys.length c5], 26) (by simp))); (obtain ⟨u0, u1, u2, u3, u4, u5, u6, u7⟩ := row8_cells (HH.out.rows (gw, #[.int .i64 ge, .int .i64 ph, .int .i64 tg, .int .i64 tx, .int .i64 rt, .int .i64 pg, .int .i64 li, .slice A xs.length c], 24) (by simp))))
                  | ((with_reducible refine (rmsame_any ge' ph' tg' tx' rt' pg' li' A5 ys.length c5 ys ge' ph' tg' tx' rt' pg' li' A' ys.length c' ys _ (HH.out.bs (A5, ys.length, c5, ys) (by simp)) (HY HH.out)).mono ?_); rintro e wa ⟨rfl, hB⟩; rw [m2]; (replace HH := Aside0.mk (HH.out.step hB)); clear hB; (obtain ⟨p0, p1, p2, p3, p4, p5, p6, p7⟩ := row8_cells (HH.out.rows (w.heap.size, #[.int .i64 ge, .int .i64 ph, .int .i64 tg, .int .i64 tx, .int .i64 rt, .int .i64 pg, .int .i64 li, .slice A xs.length c], 24) (by simp))); (obtain ⟨q0, q1, q2, q3, q4, q5, q6, q7⟩ := row8_cells (HH.out.rows (w.heap.size + 1, #[.int .i64 ge', .int .i64 ph', .int .i64 tg', .int .i64 tx', .int .i64 rt', .int .i64 pg', .int .i64 li', .slice A' ys.length c'], 24) (by simp))); (obtain ⟨r0, r1, r2, r3, r4, r5, r6, r7⟩ := row8_cells (HH.out.rows (gm, #[.int .i64 ge, .int .i64 ph, .int .i64 tg, .int .i64 tx, .int .i64 rt, .int .i64 pg, .int .i64 li, .slice A3 xs.length c3], 26) (by simp))); (obtain ⟨s0, s1, s2, s3, s4, s5, s6, s7⟩ := row8_cells (HH.out.rows (gn, #[.int .i64 ge, .int .i64 ph, .int .i64 tg, .int .i64 tx, .int .i64 rt, .int .i64 pg, .int .i64 li, .slice A4 xs.length c4], 26) (by simp))); (obtain ⟨t0, t1, t2, t3, t4, t5, t6, t7⟩ := row8_cells (HH.out.rows (go, #[.int .i64 ge', .int .i64 ph', .int .i64 tg', .int .i64 tx', .int .i64 rt', .int .i64 pg', .int .i64 li', .slice A5 ys.length c5], 26) (by simp))); (obtain ⟨u0, u1, u2, u3, u4, u5, u6, u7⟩ := row8_cells (HH.out.rows (gw, #[.int .i64 ge, .int .i64 ph, .int .i64 tg, .int .i64 tx, .int .i64 rt, .int .i64 pg, .int .i64 li, .slice A xs.length c], 24) (by simp))))
              ))
            go_ret
            exact ⟨rfl, HH.out.bel⟩
        · have kb : (tx' % 2 != 1) = true := bne_iff_ne.2 eb
          go_wp2_with (first | (go_at_call 22; first | ((with_reducible refine (slot_any tx _).mono ?_); rintro e wa ⟨rfl, rfl⟩) | ((with_reducible refine (slot_any tx' _).mono ?_); rintro e wa ⟨rfl, rfl⟩)) | (go_at_call 9; (with_reducible refine (alive09_any _).mono ?_); rintro e wa ⟨rfl, hB⟩; (replace HH := Aside0.mk (HH.out.step hB)); clear hB))
          go_ret
          exact ⟨rfl, HH.out.bel⟩
      · have ka : (tx % 2 != 0) = true := bne_iff_ne.2 ea
        go_wp2_with (first | (go_at_call 22; first | ((with_reducible refine (slot_any tx _).mono ?_); rintro e wa ⟨rfl, rfl⟩) | ((with_reducible refine (slot_any tx' _).mono ?_); rintro e wa ⟨rfl, rfl⟩)) | (go_at_call 9; (with_reducible refine (alive09_any _).mono ?_); rintro e wa ⟨rfl, hB⟩; (replace HH := Aside0.mk (HH.out.step hB)); clear hB))
        go_ret
        exact ⟨rfl, HH.out.bel⟩
    | false =>
      refine (menc_no ge' ph' tg' tx' rt' pg' li' A' ys.length c' ys _ (HY HH.out) hS).mono ?_
      rintro e w1 ⟨hB, rfl⟩
      replace HH := Aside0.mk (HH.out.step hB)
      clear hB
      clear p0 p1 p2 p3 p4 p5 p6 p7 q0 q1 q2 q3 q4 q5 q6 q7
      (obtain ⟨p0, p1, p2, p3, p4, p5, p6, p7⟩ := row8_cells (HH.out.rows (w.heap.size, #[.int .i64 ge, .int .i64 ph, .int .i64 tg, .int .i64 tx, .int .i64 rt, .int .i64 pg, .int .i64 li, .slice A xs.length c], 24) (by simp)))
      (obtain ⟨q0, q1, q2, q3, q4, q5, q6, q7⟩ := row8_cells (HH.out.rows (w.heap.size + 1, #[.int .i64 ge', .int .i64 ph', .int .i64 tg', .int .i64 tx', .int .i64 rt', .int .i64 pg', .int .i64 li', .slice A' ys.length c'], 24) (by simp)))
      go_wp2_with (go_at_call 9; (with_reducible refine (alive09_any _).mono ?_); rintro e wa ⟨rfl, hB⟩; (replace HH := Aside0.mk (HH.out.step hB)); clear hB)
      go_ret
      exact ⟨rfl, HH.out.bel⟩
  | false =>
    refine (menc_no ge ph tg tx rt pg li A xs.length c xs _ (HX HH.out) hR).mono ?_
    rintro e w1 ⟨hB, rfl⟩
    replace HH := Aside0.mk (HH.out.step hB)
    clear hB
    clear p0 p1 p2 p3 p4 p5 p6 p7 q0 q1 q2 q3 q4 q5 q6 q7
    (obtain ⟨p0, p1, p2, p3, p4, p5, p6, p7⟩ := row8_cells (HH.out.rows (w.heap.size, #[.int .i64 ge, .int .i64 ph, .int .i64 tg, .int .i64 tx, .int .i64 rt, .int .i64 pg, .int .i64 li, .slice A xs.length c], 24) (by simp)))
    (obtain ⟨q0, q1, q2, q3, q4, q5, q6, q7⟩ := row8_cells (HH.out.rows (w.heap.size + 1, #[.int .i64 ge', .int .i64 ph', .int .i64 tg', .int .i64 tx', .int .i64 rt', .int .i64 pg', .int .i64 li', .slice A' ys.length c'], 24) (by simp)))
    go_wp2_with fail
    cases hS : mrightB ge' ph' tg' tx' rt' pg' li' ys.length with
    | true =>
      refine (menc_ok ge' ph' tg' tx' rt' pg' li' A' ys.length c' ys _ (HY HH.out) hS).mono ?_
      rintro e w1 ⟨hB, A2, c2, rfl, hO⟩
      replace HH := Aside0.mk ((HH.out.step hB).byt hO.bs)
      clear hB hO
      clear p0 p1 p2 p3 p4 p5 p6 p7 q0 q1 q2 q3 q4 q5 q6 q7
      (obtain ⟨p0, p1, p2, p3, p4, p5, p6, p7⟩ := row8_cells (HH.out.rows (w.heap.size, #[.int .i64 ge, .int .i64 ph, .int .i64 tg, .int .i64 tx, .int .i64 rt, .int .i64 pg, .int .i64 li, .slice A xs.length c], 24) (by simp)))
      (obtain ⟨q0, q1, q2, q3, q4, q5, q6, q7⟩ := row8_cells (HH.out.rows (w.heap.size + 1, #[.int .i64 ge', .int .i64 ph', .int .i64 tg', .int .i64 tx', .int .i64 rt', .int .i64 pg', .int .i64 li', .slice A' ys.length c'], 24) (by simp)))
      go_wp2_with (go_at_call 9; (with_reducible refine (alive09_any _).mono ?_); rintro e wa ⟨rfl, hB⟩; (replace HH := Aside0.mk (HH.out.step hB)); clear hB)
      go_ret
      exact ⟨rfl, HH.out.bel⟩
    | false =>
      refine (menc_no ge' ph' tg' tx' rt' pg' li' A' ys.length c' ys _ (HY HH.out) hS).mono ?_
      rintro e w1 ⟨hB, rfl⟩
      replace HH := Aside0.mk (HH.out.step hB)
      clear hB
      clear p0 p1 p2 p3 p4 p5 p6 p7 q0 q1 q2 q3 q4 q5 q6 q7
      (obtain ⟨p0, p1, p2, p3, p4, p5, p6, p7⟩ := row8_cells (HH.out.rows (w.heap.size, #[.int .i64 ge, .int .i64 ph, .int .i64 tg, .int .i64 tx, .int .i64 rt, .int .i64 pg, .int .i64 li, .slice A xs.length c], 24) (by simp)))
      (obtain ⟨q0, q1, q2, q3, q4, q5, q6, q7⟩ := row8_cells (HH.out.rows (w.heap.size + 1, #[.int .i64 ge', .int .i64 ph', .int .i64 tg', .int .i64 tx', .int .i64 rt', .int .i64 pg', .int .i64 li', .slice A' ys.length c'], 24) (by simp)))
      go_wp2_with (go_at_call 9; (with_reducible refine (alive09_any _).mono ?_); rintro e wa ⟨rfl, hB⟩; (replace HH := Aside0.mk (HH.out.step hB)); clear hB)
      go_ret
      exact ⟨rfl, HH.out.bel⟩
end Go.Proofs.Ytenibcbodjkglaa
