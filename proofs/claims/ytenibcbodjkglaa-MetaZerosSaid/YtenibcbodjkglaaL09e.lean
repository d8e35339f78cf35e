/- The walk of MetaEncodes. -/
import Derived.Test.YtenibcbodjkglaaL09c
set_option linter.unusedVariables false
set_option linter.unusedSimpArgs false
namespace Go.Proofs.Ytenibcbodjkglaa
open Go.RowKit

theorem menc_ok (ge ph tg tx rt pg li : Int) (A : Option Addr) (n c : Nat) (xs : List UInt8) (w : World) (hb : Bs w A n c xs) (h : mrightB ge ph tg tx rt pg li n = true) :
    Calls Try.prog 10 #[.agg #[.int .i64 ge, .int .i64 ph, .int .i64 tg, .int .i64 tx, .int .i64 rt, .int .i64 pg, .int .i64 li, .slice A n c]] w fun e w' => Below w.heap.size w w' ∧ ∃ A1 c1, e = .returned (.tuple #[.slice A1 256 c1, .int .i64 0]) ∧ Ow w' w.heap.size A1 256 c1 (encR ge ph tg tx rt pg li xs) := by
  obtain rfl := hb.len
  refine (mencode_any ge ph tg tx rt pg li A _ c xs w hb).mono ?_
  rintro e w' ⟨hB, ⟨k, _⟩ | ⟨_, A2, c2, rfl, hO⟩⟩
  · rw [h] at k
    exact Bool.noConfusion k
  · rw [enc_eq h, (encR_read h).1] at hO ⊢
    exact ⟨hB, A2, c2, rfl, hO⟩
theorem menc_no (ge ph tg tx rt pg li : Int) (A : Option Addr) (n c : Nat) (xs : List UInt8) (w : World) (hb : Bs w A n c xs) (h : mrightB ge ph tg tx rt pg li n = false) :
    Calls Try.prog 10 #[.agg #[.int .i64 ge, .int .i64 ph, .int .i64 tg, .int .i64 tx, .int .i64 rt, .int .i64 pg, .int .i64 li, .slice A n c]] w fun e w' => Below w.heap.size w w' ∧ e = .returned (.tuple #[.slice none 0 0, .int .i64 92]) := by
  refine (mencode_any ge ph tg tx rt pg li A n c xs w hb).mono ?_
  rintro e w' ⟨hB, ⟨_, rfl⟩ | ⟨k, _⟩⟩
  · exact ⟨hB, rfl⟩
  · rw [h] at k
    exact Bool.noConfusion k
theorem renc_ok (ge ph tg tx rt pg li : Int) (A : Option Addr) (n c : Nat) (xs : List UInt8) (w : World) (hb : Bs w A n c xs) (h : mrightB ge ph tg tx rt pg li n = true) :
    Calls Try.prog 11 #[.agg #[.int .i64 ge, .int .i64 ph, .int .i64 tg, .int .i64 tx, .int .i64 rt, .int .i64 pg, .int .i64 li, .slice A n c]] w fun e w' => Below w.heap.size w w' ∧ ∃ A1 c1, e = .returned (.tuple #[.slice A1 256 c1, .int .i64 0]) ∧ Ow w' w.heap.size A1 256 c1 (encR ge ph tg tx rt pg li xs) := by
  obtain rfl := hb.len
  refine (rencode_any ge ph tg tx rt pg li A _ c xs w hb).mono ?_
  rintro e w' ⟨hB, ⟨k, _⟩ | ⟨_, A2, c2, rfl, hO⟩⟩
  · rw [h] at k
    exact Bool.noConfusion k
  · rw [(encR_read h).1] at hO ⊢
    exact ⟨hB, A2, c2, rfl, hO⟩
theorem renc_no (ge ph tg tx rt pg li : Int) (A : Option Addr) (n c : Nat) (xs : List UInt8) (w : World) (hb : Bs w A n c xs) (h : mrightB ge ph tg tx rt pg li n = false) :
    Calls Try.prog 11 #[.agg #[.int .i64 ge, .int .i64 ph, .int .i64 tg, .int .i64 tx, .int .i64 rt, .int .i64 pg, .int .i64 li, .slice A n c]] w fun e w' => Below w.heap.size w w' ∧ e = .returned (.tuple #[.slice none 0 0, .int .i64 92]) := by
  refine (rencode_any ge ph tg tx rt pg li A n c xs w hb).mono ?_
  rintro e w' ⟨hB, ⟨_, rfl⟩ | ⟨k, _⟩⟩
  · exact ⟨hB, rfl⟩
  · rw [h] at k
    exact Bool.noConfusion k
/-- What was written is read. -/
theorem mdec_enc (ge ph tg tx rt pg li : Int) (xs : List UInt8) (A : Option Addr) (c : Nat) (w : World) (hb : Bs w A 256 c (encR ge ph tg tx rt pg li xs)) (h : mrightB ge ph tg tx rt pg li xs.length = true) :
    Calls Try.prog 17 #[.slice A 256 c] w fun e w' => Below w.heap.size w w' ∧ ∃ A3 c3, e = .returned (.tuple #[.agg #[.int .i64 ge, .int .i64 ph, .int .i64 tg, .int .i64 tx, .int .i64 rt, .int .i64 pg, .int .i64 li, .slice A3 xs.length c3], .int .i64 0]) ∧ Ow w' w.heap.size A3 xs.length c3 xs := by
  obtain ⟨_, a1, a2, a3, a4, a5, a6, a7, a8, a9⟩ := encR_read h
  obtain ⟨f1, f2, f3, f4, f5, f6, f7, f8⟩ := rd_rf a9
  refine (mdecode_any A 256 c _ w hb).mono ?_
  rintro e w' ⟨hB, ⟨k, _⟩ | ⟨k, A1, c1, rfl, hO⟩⟩
  · exact absurd ((dec_ref _).trans a9) k
  · rw [f8, a8] at hO
    rw [f1, f2, f3, f4, f5, f6, f7, f8, a1, a2, a3, a4, a5, a6, a7, a8]
    exact ⟨hB, A1, c1, rfl, hO⟩
/-- A meta, and the program's copy of it, in their boxes. -/
theorem T2.start (w : World) (u v : Array Value) : T2 w (w.heap.size + 1) u w.heap.size v ((w.alloc (.cells v 24)).alloc (.cells u 26)) :=
  ⟨((Below.refl _ w).alloc (Nat.le_refl _) _).alloc (by simp) _, by have := heap_alloc_new (w.alloc (.cells v 24)) (.cells u 26); simpa using this, (Below.heap_alloc _ _ _ (by simp)).trans (heap_alloc_new w _)⟩
set_option maxHeartbeats 4000000 in
set_option maxRecDepth 100000 in
theorem metaEncodes_walk (ge ph tg tx rt pg li : Int) (A : Option Addr) (n c : Nat) (xs : List UInt8) (w : World) (hx : Bs w A n c xs) :
    Calls Try.prog 3 #[.agg #[.int .i64 ge, .int .i64 ph, .int .i64 tg, .int .i64 tx, .int .i64 rt, .int .i64 pg, .int .i64 li, .slice A n c]] w fun e w' => e = .returned (.bool true) ∧ Below w.heap.size w w' := by
  have HX := Aside0.mk hx
  have hl1 := hx.lim
  have hln := hx.len
  clear hx
  have HR0 := Aside0.mk (heap_alloc_new w (.cells #[.int .i64 ge, .int .i64 ph, .int .i64 tg, .int .i64 tx, .int .i64 rt, .int .i64 pg, .int .i64 li, .slice A n c] 24))
  have HB0 := Aside0.mk ((Below.refl w.heap.size w).alloc (Nat.le_refl _) (.cells #[.int .i64 ge, .int .i64 ph, .int .i64 tg, .int .i64 tx, .int .i64 rt, .int .i64 pg, .int .i64 li, .slice A n c] 24))
  by_cases g1 : 300 < n
  · have d1 : decide (300 < (n : Int)) = true := decide_eq_true (by omega)
    go_enter Try.func3, Try.ntmps3
    go_wp2_with (go_at_call 9; (with_reducible refine (alive09_any _).mono ?_); rintro e wa ⟨rfl, hB⟩)
    go_ret
    exact ⟨rfl, below_then HB0.out HB0.out.size hB⟩
  · have d1 : decide (300 < (n : Int)) = false := decide_eq_false (by omega)
    clear g1
    have HT := Aside0.mk (T2.start w #[.int .i64 ge, .int .i64 ph, .int .i64 tg, .int .i64 tx, .int .i64 rt, .int .i64 pg, .int .i64 li, .slice A n c] #[.int .i64 ge, .int .i64 ph, .int .i64 tg, .int .i64 tx, .int .i64 rt, .int .i64 pg, .int .i64 li, .slice A n c])
    go_enter Try.func3, Try.ntmps3
    go_wp2_with fail
    clear d1 HR0 HB0
    obtain ⟨W0, hW0⟩ : ∃ X, (w.alloc (.cells #[.int .i64 ge, .int .i64 ph, .int .i64 tg, .int .i64 tx, .int .i64 rt, .int .i64 pg, .int .i64 li, .slice A n c] 24)).alloc (.cells #[.int .i64 ge, .int .i64 ph, .int .i64 tg, .int .i64 tx, .int .i64 rt, .int .i64 pg, .int .i64 li, .slice A n c] 26) = X := ⟨_, rfl⟩
    rw [hW0] at HT ⊢
    clear hW0
    cases hR : mrightB ge ph tg tx rt pg li n with
    | true =>
      have hR' := Aside0.mk (show mrightB ge ph tg tx rt pg li xs.length = true from by rw [hln]; exact hR)
      clear hln
      refine (menc_ok ge ph tg tx rt pg li A n c xs W0 (HX.out.below HT.out.bel) hR).mono ?_
      rintro e w1 ⟨hB1, A1, c1, rfl, hO1⟩
      have HO1 := Aside0.mk hO1.bs
      replace HT := Aside0.mk (HT.out.step hB1)
      clear hB1 hO1
      (obtain ⟨x0, x1, x2, x3, x4, x5, x6, x7⟩ := row8_cells HT.out.ra)
      (obtain ⟨y0, y1, y2, y3, y4, y5, y6, y7⟩ := row8_cells HT.out.rb)
      go_wp2_with fail
      refine (renc_ok ge ph tg tx rt pg li A n c xs w1 (HX.out.below HT.out.bel) hR).mono ?_
      rintro e w2 ⟨hB2, A2, c2, rfl, hO2⟩
      have HO2 := Aside0.mk hO2.bs
      replace HO1 := Aside0.mk (HO1.out.below hB2)
      replace HT := Aside0.mk (HT.out.step hB2)
      clear hB2 x0 x1 x2 x3 x4 x5 x6 x7 y0 y1 y2 y3 y4 y5 y6 y7 hO2
      (obtain ⟨x0, x1, x2, x3, x4, x5, x6, x7⟩ := row8_cells HT.out.ra)
      (obtain ⟨y0, y1, y2, y3, y4, y5, y6, y7⟩ := row8_cells HT.out.rb)
      have ms := msame_refl ge ph tg tx rt pg li xs
      obtain ⟨E, hEE⟩ : ∃ E, encR ge ph tg tx rt pg li xs = E := ⟨_, rfl⟩
      rw [hEE] at HO1 HO2
      have ee : (E == E) = true := beq_self_eq_true _
      have HE := Aside0.mk hEE
      clear hEE
      by_cases hp : ph = 1
      · have qp : (ph == 1) = true := beq_iff_eq.2 hp
        have hw : writeI ge ph tg = tg := if_pos hp
        replace hp := Aside0.mk hp
        go_upto_region 9 with fail
        have HXB := Aside0.mk (HX.out.below HT.out.bel)
        have cEq : ∀ k : Ext w2, Calls Try.prog 12 #[.slice A1 256 c1, .slice A2 256 c2] k.w fun e w' => e = .returned (.bool true) ∧ k.w = w' := fun k => by
          have hs := equal8_any A1 256 c1 E A2 256 c2 E k.w (HO1.out.ext k) (HO2.out.ext k)
          rw [ee] at hs
          exact hs
        have cRt : ∀ k : Ext w2, Calls Try.prog 13 #[.agg #[.int .i64 ge, .int .i64 ph, .int .i64 tg, .int .i64 tx, .int .i64 rt, .int .i64 pg, .int .i64 li, .slice A n c]] k.w fun e w' => e = .returned (.bool true) ∧ Below k.w.heap.size k.w w' := fun k => by
          have hs := mright_any ge ph tg tx rt pg li A n c k.w hl1
          rw [hR] at hs
          exact hs
        have cRr : ∀ k : Ext w2, Calls Try.prog 14 #[.agg #[.int .i64 ge, .int .i64 ph, .int .i64 tg, .int .i64 tx, .int .i64 rt, .int .i64 pg, .int .i64 li, .slice A n c]] k.w fun e w' => e = .returned (.bool true) ∧ Below k.w.heap.size k.w w' := fun k => by
          have hs := rmright_any ge ph tg tx rt pg li A n c k.w hl1
          rw [hR] at hs
          exact hs
        have cWr : ∀ k : Ext w2, Calls Try.prog 15 #[.agg #[.int .i64 ge, .int .i64 ph, .int .i64 tg, .int .i64 tx, .int .i64 rt, .int .i64 pg, .int .i64 li, .slice A n c]] k.w fun e w' => e = .returned (.int .i64 tg) ∧ Below k.w.heap.size k.w w' := fun k => by
          have hs := mwrite_any ge ph tg tx rt pg li A n c k.w
          rw [hw] at hs
          exact hs
        have cSm : ∀ k : Ext w2, Calls Try.prog 16 #[.agg #[.int .i64 ge, .int .i64 ph, .int .i64 tg, .int .i64 tx, .int .i64 rt, .int .i64 pg, .int .i64 li, .slice A n c], .agg #[.int .i64 ge, .int .i64 ph, .int .i64 tg, .int .i64 tx, .int .i64 rt, .int .i64 pg, .int .i64 li, .slice A n c]] k.w fun e w' => e = .returned (.bool true) ∧ Below k.w.heap.size k.w w' := fun k => by
          have hs := msame_any ge ph tg tx rt pg li A n c xs ge ph tg tx rt pg li A n c xs k.w (HXB.out.ext k) (HXB.out.ext k)
          rw [ms] at hs
          exact hs
        refine wp_region_ext (by kernel_rfl) (by kernel_rfl) ?_
        have a0 := cell_ext x0
        have a1 := cell_ext x1
        have a2 := cell_ext x2
        have a3 := cell_ext x3
        have a4 := cell_ext x4
        have a5 := cell_ext x5
        have a6 := cell_ext x6
        have a7 := cell_ext x7
        have b0 := cell_ext y0
        have b1 := cell_ext y1
        have b2 := cell_ext y2
        have b3 := cell_ext y3
        have b4 := cell_ext y4
        have b5 := cell_ext y5
        have b6 := cell_ext y6
        have b7 := cell_ext y7
        clear x0 x1 x2 x3 x4 x5 x6 x7 y0 y1 y2 y3 y4 y5 y6 y7
        repeat (go_big_quiet_step (first
          | (go_at_call 12; exact Calls.ext_same (cEq _))
          | (go_at_call 13; exact Calls.ext_of (cRt _))
          | (go_at_call 14; exact Calls.ext_of (cRr _))
          | (go_at_call 15; exact Calls.ext_of (cWr _))
          | (go_at_call 16; exact Calls.ext_of (cSm _))))
        refine wpQuiet_nil ?_
        rintro w' ⟨kx, rfl⟩
        clear a0 a1 a2 a3 a4 a5 a6 a7 b0 b1 b2 b3 b4 b5 b6 b7
        replace HT := Aside0.mk (HT.out.step kx.bel)
        replace HO1 := Aside0.mk (HO1.out.ext kx)
        clear HO2
        (obtain ⟨x0, x1, x2, x3, x4, x5, x6, x7⟩ := row8_cells HT.out.ra)
        (obtain ⟨y0, y1, y2, y3, y4, y5, y6, y7⟩ := row8_cells HT.out.rb)
        go_wp2_with (first
          | (go_at_call 17; (with_reducible refine (mdec_enc ge ph tg tx rt pg li xs A1 c1 _ (by rw [HE.out]; exact HO1.out) hR'.out).mono ?_); rintro e w3 ⟨hB, A3, c3, rfl, hO3⟩; (have HT2 := Aside0.mk ((HT.out.step hB).step ((Below.refl _ w3).alloc (Nat.le_refl _) (.cells #[.int .i64 ge, .int .i64 ph, .int .i64 tg, .int .i64 tx, .int .i64 rt, .int .i64 pg, .int .i64 li, .slice A3 xs.length c3] 26)))); (have HN := Aside0.mk (heap_alloc_new w3 (.cells #[.int .i64 ge, .int .i64 ph, .int .i64 tg, .int .i64 tx, .int .i64 rt, .int .i64 pg, .int .i64 li, .slice A3 xs.length c3] 26))); (have HO3 := Aside0.mk (hO3.bs.alloc (.cells #[.int .i64 ge, .int .i64 ph, .int .i64 tg, .int .i64 tx, .int .i64 rt, .int .i64 pg, .int .i64 li, .slice A3 xs.length c3] 26))); clear hB hO3; (obtain ⟨W3, hW3⟩ : ∃ X, w3.alloc (.cells #[.int .i64 ge, .int .i64 ph, .int .i64 tg, .int .i64 tx, .int .i64 rt, .int .i64 pg, .int .i64 li, .slice A3 xs.length c3] 26) = X := ⟨_, rfl⟩); rw [hW3] at HT2 HN HO3)
          | (go_at_call 9; (with_reducible refine (alive09_any _).mono ?_); rintro e wa ⟨rfl, hB⟩; (have HT3 := Aside0.mk (HT2.out.step hB)); (have HN2 := Aside0.mk ((hB.block _ (Array.getElem?_eq_some_iff.1 HN.out).1).trans HN.out)); (have HO4 := Aside0.mk (HO3.out.below hB)); clear hB; (obtain ⟨z0, z1, z2, z3, z4, z5, z6, z7⟩ := row8_cells HN2.out); (obtain ⟨u0, u1, u2, u3, u4, u5, u6, u7⟩ := row8_cells HT3.out.rb))
          | (go_at_call 18; (with_reducible refine (rmsame_any ge ph tg tx rt pg li A3 xs.length c3 xs ge ph tg tx rt pg li A n c xs _ HO4.out (HX.out.below HT3.out.bel)).mono ?_); rintro e wa ⟨rfl, hB⟩; rw [ms]; (have HT4 := Aside0.mk (HT3.out.step hB)); clear hB))
        go_ret
        exact ⟨rfl, HT4.out.bel⟩
      · have qp : (ph == 1) = false := beq_eq_false_iff_ne.2 hp
        have hw : writeI ge ph tg = ge := if_neg hp
        replace hp := Aside0.mk hp
        go_upto_region 9 with fail
        have HXB := Aside0.mk (HX.out.below HT.out.bel)
        have cEq : ∀ k : Ext w2, Calls Try.prog 12 #[.slice A1 256 c1, .slice A2 256 c2] k.w fun e w' => e = .returned (.bool true) ∧ k.w = w' := fun k => by
          have hs := equal8_any A1 256 c1 E A2 256 c2 E k.w (HO1.out.ext k) (HO2.out.ext k)
          rw [ee] at hs
          exact hs
        have cRt : ∀ k : Ext w2, Calls Try.prog 13 #[.agg #[.int .i64 ge, .int .i64 ph, .int .i64 tg, .int .i64 tx, .int .i64 rt, .int .i64 pg, .int .i64 li, .slice A n c]] k.w fun e w' => e = .returned (.bool true) ∧ Below k.w.heap.size k.w w' := fun k => by
          have hs := mright_any ge ph tg tx rt pg li A n c k.w hl1
          rw [hR] at hs
          exact hs
        have cRr : ∀ k : Ext w2, Calls Try.prog 14 #[.agg #[.int .i64 ge, .int .i64 ph, .int .i64 tg, .int .i64 tx, .int .i64 rt, .int .i64 pg, .int .i64 li, .slice A n c]] k.w fun e w' => e = .returned (.bool true) ∧ Below k.w.heap.size k.w w' := fun k => by
          have hs := rmright_any ge ph tg tx rt pg li A n c k.w hl1
          rw [hR] at hs
          exact hs
        have cWr : ∀ k : Ext w2, Calls Try.prog 15 #[.agg #[.int .i64 ge, .int .i64 ph, .int .i64 tg, .int .i64 tx, .int .i64 rt, .int .i64 pg, .int .i64 li, .slice A n c]] k.w fun e w' => e = .returned (.int .i64 ge) ∧ Below k.w.heap.size k.w w' := fun k => by
          have hs := mwrite_any ge ph tg tx rt pg li A n c k.w
          rw [hw] at hs
          exact hs
        have cSm : ∀ k : Ext w2, Calls Try.prog 16 #[.agg #[.int .i64 ge, .int .i64 ph, .int .i64 tg, .int .i64 tx, .int .i64 rt, .int .i64 pg, .int .i64 li, .slice A n c], .agg #[.int .i64 ge, .int .i64 ph, .int .i64 tg, .int .i64 tx, .int .i64 rt, .int .i64 pg, .int .i64 li, .slice A n c]] k.w fun e w' => e = .returned (.bool true) ∧ Below k.w.heap.size k.w w' := fun k => by
          have hs := msame_any ge ph tg tx rt pg li A n c xs ge ph tg tx rt pg li A n c xs k.w (HXB.out.ext k) (HXB.out.ext k)
          rw [ms] at hs
          exact hs
        refine wp_region_ext (by kernel_rfl) (by kernel_rfl) ?_
        have a0 := cell_ext x0
        have a1 := cell_ext x1
        have a2 := cell_ext x2
        have a3 := cell_ext x3
        have a4 := cell_ext x4
        have a5 := cell_ext x5
        have a6 := cell_ext x6
        have a7 := cell_ext x7
        have b0 := cell_ext y0
        have b1 := cell_ext y1
        have b2 := cell_ext y2
        have b3 := cell_ext y3
        have b4 := cell_ext y4
        have b5 := cell_ext y5
        have b6 := cell_ext y6
        have b7 := cell_ext y7
        clear x0 x1 x2 x3 x4 x5 x6 x7 y0 y1 y2 y3 y4 y5 y6 y7
        repeat (go_big_quiet_step (first
          | (go_at_call 12; exact Calls.ext_same (cEq _))
          | (go_at_call 13; exact Calls.ext_of (cRt _))
          | (go_at_call 14; exact Calls.ext_of (cRr _))
          | (go_at_call 15; exact Calls.ext_of (cWr _))
          | (go_at_call 16; exact Calls.ext_of (cSm _))))
        refine wpQuiet_nil ?_
        rintro w' ⟨kx, rfl⟩
        clear a0 a1 a2 a3 a4 a5 a6 a7 b0 b1 b2 b3 b4 b5 b6 b7
        replace HT := Aside0.mk (HT.out.step kx.bel)
        replace HO1 := Aside0.mk (HO1.out.ext kx)
        clear HO2
        (obtain ⟨x0, x1, x2, x3, x4, x5, x6, x7⟩ := row8_cells HT.out.ra)
        (obtain ⟨y0, y1, y2, y3, y4, y5, y6, y7⟩ := row8_cells HT.out.rb)
        go_wp2_with (first
          | (go_at_call 17; (with_reducible refine (mdec_enc ge ph tg tx rt pg li xs A1 c1 _ (by rw [HE.out]; exact HO1.out) hR'.out).mono ?_); rintro e w3 ⟨hB, A3, c3, rfl, hO3⟩; (have HT2 := Aside0.mk ((HT.out.step hB).step ((Below.refl _ w3).alloc (Nat.le_refl _) (.cells #[.int .i64 ge, .int .i64 ph, .int .i64 tg, .int .i64 tx, .int .i64 rt, .int .i64 pg, .int .i64 li, .slice A3 xs.length c3] 26)))); (have HN := Aside0.mk (heap_alloc_new w3 (.cells #[.int .i64 ge, .int .i64 ph, .int .i64 tg, .int .i64 tx, .int .i64 rt, .int .i64 pg, .int .i64 li, .slice A3 xs.length c3] 26))); (have HO3 := Aside0.mk (hO3.bs.alloc (.cells #[.int .i64 ge, .int .i64 ph, .int .i64 tg, .int .i64 tx, .int .i64 rt, .int .i64 pg, .int .i64 li, .slice A3 xs.length c3] 26))); clear hB hO3; (obtain ⟨W3, hW3⟩ : ∃ X, w3.alloc (.cells #[.int .i64 ge, .int .i64 ph, .int .i64 tg, .int .i64 tx, .int .i64 rt, .int .i64 pg, .int .i64 li, .slice A3 xs.length c3] 26) = X := ⟨_, rfl⟩); rw [hW3] at HT2 HN HO3)
          | (go_at_call 9; (with_reducible refine (alive09_any _).mono ?_); rintro e wa ⟨rfl, hB⟩; (have HT3 := Aside0.mk (HT2.out.step hB)); (have HN2 := Aside0.mk ((hB.block _ (Array.getElem?_eq_some_iff.1 HN.out).1).trans HN.out)); (have HO4 := Aside0.mk (HO3.out.below hB)); clear hB; (obtain ⟨z0, z1, z2, z3, z4, z5, z6, z7⟩ := row8_cells HN2.out); (obtain ⟨u0, u1, u2, u3, u4, u5, u6, u7⟩ := row8_cells HT3.out.rb))
          | (go_at_call 18; (with_reducible refine (rmsame_any ge ph tg tx rt pg li A3 xs.length c3 xs ge ph tg tx rt pg li A n c xs _ HO4.out (HX.out.below HT3.out.bel)).mono ?_); rintro e wa ⟨rfl, hB⟩; rw [ms]; (have HT4 := Aside0.mk (HT3.out.step hB)); clear hB))
        go_ret
        exact ⟨rfl, HT4.out.bel⟩
    | false =>
      refine (menc_no ge ph tg tx rt pg li A n c xs W0 (HX.out.below HT.out.bel) hR).mono ?_
      rintro e w1 ⟨hB1, rfl⟩
      replace HT := Aside0.mk (HT.out.step hB1)
      clear hB1
      (obtain ⟨x0, x1, x2, x3, x4, x5, x6, x7⟩ := row8_cells HT.out.ra)
      (obtain ⟨y0, y1, y2, y3, y4, y5, y6, y7⟩ := row8_cells HT.out.rb)
      go_wp2_with fail
      refine (renc_no ge ph tg tx rt pg li A n c xs w1 (HX.out.below HT.out.bel) hR).mono ?_
      rintro e w2 ⟨hB2, rfl⟩
      replace HT := Aside0.mk (HT.out.step hB2)
      clear hB2 x0 x1 x2 x3 x4 x5 x6 x7 y0 y1 y2 y3 y4 y5 y6 y7
      (obtain ⟨x0, x1, x2, x3, x4, x5, x6, x7⟩ := row8_cells HT.out.ra)
      (obtain ⟨y0, y1, y2, y3, y4, y5, y6, y7⟩ := row8_cells HT.out.rb)
      have ms := msame_refl ge ph tg tx rt pg li xs
      have ee : (([] : List UInt8) == []) = true := rfl
      have HE := Aside0.mk True.intro
      by_cases hp : ph = 1
      · have qp : (ph == 1) = true := beq_iff_eq.2 hp
        have hw : writeI ge ph tg = tg := if_pos hp
        replace hp := Aside0.mk hp
        go_upto_region 9 with fail
        have HXB := Aside0.mk (HX.out.below HT.out.bel)
        have cEq : ∀ k : Ext w2, Calls Try.prog 12 #[.slice none 0 0, .slice none 0 0] k.w fun e w' => e = .returned (.bool true) ∧ k.w = w' := fun k => by
          have hs := equal8_any none 0 0 [] none 0 0 [] k.w (Bs.nil _ _ _ (by omega)) (Bs.nil _ _ _ (by omega))
          rw [ee] at hs
          exact hs
        have cRt : ∀ k : Ext w2, Calls Try.prog 13 #[.agg #[.int .i64 ge, .int .i64 ph, .int .i64 tg, .int .i64 tx, .int .i64 rt, .int .i64 pg, .int .i64 li, .slice A n c]] k.w fun e w' => e = .returned (.bool false) ∧ Below k.w.heap.size k.w w' := fun k => by
          have hs := mright_any ge ph tg tx rt pg li A n c k.w hl1
          rw [hR] at hs
          exact hs
        have cRr : ∀ k : Ext w2, Calls Try.prog 14 #[.agg #[.int .i64 ge, .int .i64 ph, .int .i64 tg, .int .i64 tx, .int .i64 rt, .int .i64 pg, .int .i64 li, .slice A n c]] k.w fun e w' => e = .returned (.bool false) ∧ Below k.w.heap.size k.w w' := fun k => by
          have hs := rmright_any ge ph tg tx rt pg li A n c k.w hl1
          rw [hR] at hs
          exact hs
        have cWr : ∀ k : Ext w2, Calls Try.prog 15 #[.agg #[.int .i64 ge, .int .i64 ph, .int .i64 tg, .int .i64 tx, .int .i64 rt, .int .i64 pg, .int .i64 li, .slice A n c]] k.w fun e w' => e = .returned (.int .i64 tg) ∧ Below k.w.heap.size k.w w' := fun k => by
          have hs := mwrite_any ge ph tg tx rt pg li A n c k.w
          rw [hw] at hs
          exact hs
        have cSm : ∀ k : Ext w2, Calls Try.prog 16 #[.agg #[.int .i64 ge, .int .i64 ph, .int .i64 tg, .int .i64 tx, .int .i64 rt, .int .i64 pg, .int .i64 li, .slice A n c], .agg #[.int .i64 ge, .int .i64 ph, .int .i64 tg, .int .i64 tx, .int .i64 rt, .int .i64 pg, .int .i64 li, .slice A n c]] k.w fun e w' => e = .returned (.bool true) ∧ Below k.w.heap.size k.w w' := fun k => by
          have hs := msame_any ge ph tg tx rt pg li A n c xs ge ph tg tx rt pg li A n c xs k.w (HXB.out.ext k) (HXB.out.ext k)
          rw [ms] at hs
          exact hs
        refine wp_region_ext (by kernel_rfl) (by kernel_rfl) ?_
        have a0 := cell_ext x0
        have a1 := cell_ext x1
        have a2 := cell_ext x2
        have a3 := cell_ext x3
        have a4 := cell_ext x4
        have a5 := cell_ext x5
        have a6 := cell_ext x6
        have a7 := cell_ext x7
        have b0 := cell_ext y0
        have b1 := cell_ext y1
        have b2 := cell_ext y2
        have b3 := cell_ext y3
        have b4 := cell_ext y4
        have b5 := cell_ext y5
        have b6 := cell_ext y6
        have b7 := cell_ext y7
        clear x0 x1 x2 x3 x4 x5 x6 x7 y0 y1 y2 y3 y4 y5 y6 y7
        repeat (go_big_quiet_step (first
          | (go_at_call 12; exact Calls.ext_same (cEq _))
          | (go_at_call 13; exact Calls.ext_of (cRt _))
          | (go_at_call 14; exact Calls.ext_of (cRr _))
          | (go_at_call 15; exact Calls.ext_of (cWr _))
          | (go_at_call 16; exact Calls.ext_of (cSm _))))
        refine wpQuiet_nil ?_
        rintro w' ⟨kx, rfl⟩
        clear a0 a1 a2 a3 a4 a5 a6 a7 b0 b1 b2 b3 b4 b5 b6 b7
        replace HT := Aside0.mk (HT.out.step kx.bel)
        (obtain ⟨x0, x1, x2, x3, x4, x5, x6, x7⟩ := row8_cells HT.out.ra)
        (obtain ⟨y0, y1, y2, y3, y4, y5, y6, y7⟩ := row8_cells HT.out.rb)
        go_wp2_with (first
          | (go_at_call 9; (with_reducible refine (alive09_any _).mono ?_); rintro e wa ⟨rfl, hB⟩; (have HT4 := Aside0.mk (HT.out.step hB)); clear hB))
        go_ret
        exact ⟨rfl, HT4.out.bel⟩
      · have qp : (ph == 1) = false := beq_eq_false_iff_ne.2 hp
        have hw : writeI ge ph tg = ge := if_neg hp
        replace hp := Aside0.mk hp
        go_upto_region 9 with fail
        have HXB := Aside0.mk (HX.out.below HT.out.bel)
        have cEq : ∀ k : Ext w2, Calls Try.prog 12 #[.slice none 0 0, .slice none 0 0] k.w fun e w' => e = .returned (.bool true) ∧ k.w = w' := fun k => by
          have hs := equal8_any none 0 0 [] none 0 0 [] k.w (Bs.nil _ _ _ (by omega)) (Bs.nil _ _ _ (by omega))
          rw [ee] at hs
          exact hs
        have cRt : ∀ k : Ext w2, Calls Try.prog 13 #[.agg #[.int .i64 ge, .int .i64 ph, .int .i64 tg, .int .i64 tx, .int .i64 rt, .int .i64 pg, .int .i64 li, .slice A n c]] k.w fun e w' => e = .returned (.bool false) ∧ Below k.w.heap.size k.w w' := fun k => by
          have hs := mright_any ge ph tg tx rt pg li A n c k.w hl1
          rw [hR] at hs
          exact hs
        have cRr : ∀ k : Ext w2, Calls Try.prog 14 #[.agg #[.int .i64 ge, .int .i64 ph, .int .i64 tg, .int .i64 tx, .int .i64 rt, .int .i64 pg, .int .i64 li, .slice A n c]] k.w fun e w' => e = .returned (.bool false) ∧ Below k.w.heap.size k.w w' := fun k => by
          have hs := rmright_any ge ph tg tx rt pg li A n c k.w hl1
          rw [hR] at hs
          exact hs
        have cWr : ∀ k : Ext w2, Calls Try.prog 15 #[.agg #[.int .i64 ge, .int .i64 ph, .int .i64 tg, .int .i64 tx, .int .i64 rt, .int .i64 pg, .int .i64 li, .slice A n c]] k.w fun e w' => e = .returned (.int .i64 ge) ∧ Below k.w.heap.size k.w w' := fun k => by
          have hs := mwrite_any ge ph tg tx rt pg li A n c k.w
          rw [hw] at hs
          exact hs
        have cSm : ∀ k : Ext w2, Calls Try.prog 16 #[.agg #[.int .i64 ge, .int .i64 ph, .int .i64 tg, .int .i64 tx, .int .i64 rt, .int .i64 pg, .int .i64 li, .slice A n c], .agg #[.int .i64 ge, .int .i64 ph, .int .i64 tg, .int .i64 tx, .int .i64 rt, .int .i64 pg, .int .i64 li, .slice A n c]] k.w fun e w' => e = .returned (.bool true) ∧ Below k.w.heap.size k.w w' := fun k => by
          have hs := msame_any ge ph tg tx rt pg li A n c xs ge ph tg tx rt pg li A n c xs k.w (HXB.out.ext k) (HXB.out.ext k)
          rw [ms] at hs
          exact hs
        refine wp_region_ext (by kernel_rfl) (by kernel_rfl) ?_
        have a0 := cell_ext x0
        have a1 := cell_ext x1
        have a2 := cell_ext x2
        have a3 := cell_ext x3
        have a4 := cell_ext x4
        have a5 := cell_ext x5
        have a6 := cell_ext x6
        have a7 := cell_ext x7
        have b0 := cell_ext y0
        have b1 := cell_ext y1
        have b2 := cell_ext y2
        have b3 := cell_ext y3
        have b4 := cell_ext y4
        have b5 := cell_ext y5
        have b6 := cell_ext y6
        have b7 := cell_ext y7
        clear x0 x1 x2 x3 x4 x5 x6 x7 y0 y1 y2 y3 y4 y5 y6 y7
        repeat (go_big_quiet_step (first
          | (go_at_call 12; exact Calls.ext_same (cEq _))
          | (go_at_call 13; exact Calls.ext_of (cRt _))
          | (go_at_call 14; exact Calls.ext_of (cRr _))
          | (go_at_call 15; exact Calls.ext_of (cWr _))
          | (go_at_call 16; exact Calls.ext_of (cSm _))))
        refine wpQuiet_nil ?_
        rintro w' ⟨kx, rfl⟩
        clear a0 a1 a2 a3 a4 a5 a6 a7 b0 b1 b2 b3 b4 b5 b6 b7
        replace HT := Aside0.mk (HT.out.step kx.bel)
        (obtain ⟨x0, x1, x2, x3, x4, x5, x6, x7⟩ := row8_cells HT.out.ra)
        (obtain ⟨y0, y1, y2, y3, y4, y5, y6, y7⟩ := row8_cells HT.out.rb)
        go_wp2_with (first
          | (go_at_call 9; (with_reducible refine (alive09_any _).mono ?_); rintro e wa ⟨rfl, hB⟩; (have HT4 := Aside0.mk (HT.out.step hB)); clear hB))
        go_ret
        exact ⟨rfl, HT4.out.bel⟩
end Go.Proofs.Ytenibcbodjkglaa
