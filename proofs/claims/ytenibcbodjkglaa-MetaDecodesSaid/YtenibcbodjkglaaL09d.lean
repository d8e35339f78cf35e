/- The walk of MetaDecodes. -/
import Derived.Test.YtenibcbodjkglaaL09c
set_option linter.unusedVariables false
set_option linter.unusedSimpArgs false
namespace Go.Proofs.Ytenibcbodjkglaa
open Go.RowKit

theorem mdec_no (A : Option Addr) (n c : Nat) (xs : List UInt8) (w : World) (hb : Bs w A n c xs) {E : Int} (hE : refE xs = E) (h : E ≠ 0) :
    Calls Try.prog 17 #[.slice A n c] w fun e w' => Below w.heap.size w w' ∧ e = .returned (.tuple #[.agg #[.int .i64 0, .int .i64 0, .int .i64 0, .int .i64 0, .int .i64 0, .int .i64 0, .int .i64 0, .slice none 0 0], .int .i64 E]) := by
  refine (mdecode_any A n c xs w hb).mono ?_
  rintro e w' ⟨hB, ⟨_, rfl⟩ | ⟨k, _⟩⟩
  · exact ⟨hB, by rw [dec_ref, hE]⟩
  · exact absurd (hE.symm.trans ((dec_ref xs).symm.trans k)) h
theorem mdec_ok (A : Option Addr) (n c : Nat) (xs : List UInt8) (w : World) (hb : Bs w A n c xs) (h : refE xs = 0) :
    Calls Try.prog 17 #[.slice A n c] w fun e w' => Below w.heap.size w w' ∧ ∃ A1 c1, e = .returned (.tuple #[.agg #[.int .i64 (b8 xs 4), .int .i64 (b8 xs 5), .int .i64 (b8 xs 6), .int .i64 (rfN xs 0), .int .i64 (rfN xs 1), .int .i64 (rfN xs 2), .int .i64 (rfN xs 3), .slice A1 (rfCu xs).length c1], .int .i64 0]) ∧ Ow w' w.heap.size A1 (rfCu xs).length c1 (rfCu xs) := by
  refine (mdecode_any A n c xs w hb).mono ?_
  obtain ⟨f1, f2, f3, f4, f5, f6, f7, f8⟩ := rd_rf h
  rintro e w' ⟨hB, ⟨k, _⟩ | ⟨k, A1, c1, rfl, hO⟩⟩
  · exact absurd ((dec_ref xs).trans h) k
  · rw [f8] at hO
    rw [f1, f2, f3, f4, f5, f6, f7, f8]
    exact ⟨hB, A1, c1, rfl, hO⟩
theorem rdec_no (A : Option Addr) (n c : Nat) (xs : List UInt8) (w : World) (hb : Bs w A n c xs) {E : Int} (hE : refE xs = E) (h : E ≠ 0) :
    Calls Try.prog 19 #[.slice A n c] w fun e w' => Below w.heap.size w w' ∧ e = .returned (.tuple #[.agg #[.int .i64 0, .int .i64 0, .int .i64 0, .int .i64 0, .int .i64 0, .int .i64 0, .int .i64 0, .slice none 0 0], .int .i64 E]) := by
  refine (rdecode_any A n c xs w hb).mono ?_
  rintro e w' ⟨hB, ⟨_, rfl⟩ | ⟨k, _⟩⟩
  · exact ⟨hB, by rw [hE]⟩
  · exact absurd (hE.symm.trans k) h
theorem rdec_ok (A : Option Addr) (n c : Nat) (xs : List UInt8) (w : World) (hb : Bs w A n c xs) (h : refE xs = 0) :
    Calls Try.prog 19 #[.slice A n c] w fun e w' => Below w.heap.size w w' ∧ e = .returned (.tuple #[.agg #[.int .i64 (b8 xs 4), .int .i64 (b8 xs 5), .int .i64 (b8 xs 6), .int .i64 (rfN xs 0), .int .i64 (rfN xs 1), .int .i64 (rfN xs 2), .int .i64 (rfN xs 3), .slice (rfA A c xs) (rfCu xs).length (rfC c xs)], .int .i64 0]) := by
  refine (rdecode_any A n c xs w hb).mono ?_
  rintro e w' ⟨hB, ⟨k, _⟩ | ⟨_, rfl⟩⟩
  · exact absurd h k
  · exact ⟨hB, rfl⟩
theorem menc_back (A1 : Option Addr) (c1 : Nat) (xs : List UInt8) (w : World) (hb : Bs w A1 (rfCu xs).length c1 (rfCu xs)) (h : refE xs = 0) :
    Calls Try.prog 10 #[.agg #[.int .i64 (b8 xs 4), .int .i64 (b8 xs 5), .int .i64 (b8 xs 6), .int .i64 (rfN xs 0), .int .i64 (rfN xs 1), .int .i64 (rfN xs 2), .int .i64 (rfN xs 3), .slice A1 (rfCu xs).length c1]] w fun e w' => Below w.heap.size w w' ∧ ∃ A2 c2, e = .returned (.tuple #[.slice A2 xs.length c2, .int .i64 0]) ∧ Ow w' w.heap.size A2 xs.length c2 xs := by
  have hR := (ref_ok h).2.2.2.2.2.2.2.2.2
  refine (mencode_any (b8 xs 4) (b8 xs 5) (b8 xs 6) (rfN xs 0) (rfN xs 1) (rfN xs 2) (rfN xs 3) A1 (rfCu xs).length c1 (rfCu xs) w hb).mono ?_
  rintro e w' ⟨hB, ⟨k, _⟩ | ⟨_, A2, c2, rfl, hO⟩⟩
  · rw [hR] at k
    exact Bool.noConfusion k
  · rw [enc_eq hR, encR_back h] at hO ⊢
    exact ⟨hB, A2, c2, rfl, hO⟩
set_option maxHeartbeats 4000000 in
set_option maxRecDepth 100000 in
theorem metaDecodes_walk (A : Option Addr) (n c : Nat) (xs : List UInt8) (w : World) (hx : Bs w A n c xs) :
    Calls Try.prog 4 #[.slice A n c] w fun e w' => e = .returned (.bool true) ∧ Below w.heap.size w w' := by
  have HX := Aside0.mk hx
  have hl1 := hx.lim
  have e1 : (xs == xs) = true := beq_self_eq_true _
  clear hx
  go_enter Try.func4, Try.ntmps4
  by_cases g1 : 1000 < n
  · have d1 : decide (1000 < (n : Int)) = true := decide_eq_true (by omega)
    go_wp2_with (go_at_call 9; (with_reducible refine (alive09_any _).mono ?_); rintro e wa ⟨rfl, hB⟩)
    go_ret
    exact ⟨rfl, hB⟩
  · have d1 : decide (1000 < (n : Int)) = false := decide_eq_false (by omega)
    clear g1
    go_wp2_with fail
    clear d1
    obtain ⟨E, hE⟩ : ∃ E, refE xs = E := ⟨_, rfl⟩
    by_cases h0 : E = 0
    · subst h0
      have hE := Aside0.mk hE
      refine (mdec_ok A n c xs w HX.out hE.out).mono ?_
      rintro e w1 ⟨hB1, A1, c1, rfl, hO1⟩
      go_wp2_with fail
      have R1 := Aside0.mk (heap_alloc_new w1 (.cells #[.int .i64 (b8 xs 4), .int .i64 (b8 xs 5), .int .i64 (b8 xs 6), .int .i64 (rfN xs 0), .int .i64 (rfN xs 1), .int .i64 (rfN xs 2), .int .i64 (rfN xs 3), .slice A1 (rfCu xs).length c1] 26))
      have HB1 := Aside0.mk (below_then hB1 hB1.size ((Below.refl _ w1).alloc (Nat.le_refl _) (.cells #[.int .i64 (b8 xs 4), .int .i64 (b8 xs 5), .int .i64 (b8 xs 6), .int .i64 (rfN xs 0), .int .i64 (rfN xs 1), .int .i64 (rfN xs 2), .int .i64 (rfN xs 3), .slice A1 (rfCu xs).length c1] 26)))
      have Hb := Aside0.mk ((hO1.alloc (.cells #[.int .i64 (b8 xs 4), .int .i64 (b8 xs 5), .int .i64 (b8 xs 6), .int .i64 (rfN xs 0), .int .i64 (rfN xs 1), .int .i64 (rfN xs 2), .int .i64 (rfN xs 3), .slice A1 (rfCu xs).length c1] 26)).bs)
      obtain ⟨W1, hW1⟩ : ∃ X, w1.alloc (.cells #[.int .i64 (b8 xs 4), .int .i64 (b8 xs 5), .int .i64 (b8 xs 6), .int .i64 (rfN xs 0), .int .i64 (rfN xs 1), .int .i64 (rfN xs 2), .int .i64 (rfN xs 3), .slice A1 (rfCu xs).length c1] 26) = X := ⟨_, rfl⟩
      obtain ⟨gm, hgm⟩ : ∃ k, w1.heap.size = k := ⟨_, rfl⟩
      rw [hW1, hgm] at R1
      rw [hW1] at HB1 Hb
      rw [hW1, hgm]
      clear hW1 hgm hB1 hO1
      refine (rdec_ok A n c xs W1 (HX.out.below HB1.out) hE.out).mono ?_
      rintro e w2 ⟨hB2, rfl⟩
      have HT := Aside0.mk (show T2 w gm #[.int .i64 (b8 xs 4), .int .i64 (b8 xs 5), .int .i64 (b8 xs 6), .int .i64 (rfN xs 0), .int .i64 (rfN xs 1), .int .i64 (rfN xs 2), .int .i64 (rfN xs 3), .slice A1 (rfCu xs).length c1] w2.heap.size #[.int .i64 (b8 xs 4), .int .i64 (b8 xs 5), .int .i64 (b8 xs 6), .int .i64 (rfN xs 0), .int .i64 (rfN xs 1), .int .i64 (rfN xs 2), .int .i64 (rfN xs 3), .slice (rfA A c xs) (rfCu xs).length (rfC c xs)] (w2.alloc (.cells #[.int .i64 (b8 xs 4), .int .i64 (b8 xs 5), .int .i64 (b8 xs 6), .int .i64 (rfN xs 0), .int .i64 (rfN xs 1), .int .i64 (rfN xs 2), .int .i64 (rfN xs 3), .slice (rfA A c xs) (rfCu xs).length (rfC c xs)] 24)) from ⟨below_then (below_then HB1.out HB1.out.size hB2) (below_then HB1.out HB1.out.size hB2).size ((Below.refl _ w2).alloc (Nat.le_refl _) _), (Below.heap_alloc _ _ _ (Nat.lt_of_lt_of_le (Array.getElem?_eq_some_iff.1 R1.out).1 hB2.size)).trans ((hB2.block _ (Array.getElem?_eq_some_iff.1 R1.out).1).trans R1.out), heap_alloc_new w2 _⟩)
      have Hb2 := Aside0.mk ((Hb.out.below hB2).alloc (.cells #[.int .i64 (b8 xs 4), .int .i64 (b8 xs 5), .int .i64 (b8 xs 6), .int .i64 (rfN xs 0), .int .i64 (rfN xs 1), .int .i64 (rfN xs 2), .int .i64 (rfN xs 3), .slice (rfA A c xs) (rfCu xs).length (rfC c xs)] 24))
      clear hB2 R1 HB1 Hb
      go_upto_region 5 with fail
      obtain ⟨W2, hW2⟩ : ∃ X, w2.alloc (.cells #[.int .i64 (b8 xs 4), .int .i64 (b8 xs 5), .int .i64 (b8 xs 6), .int .i64 (rfN xs 0), .int .i64 (rfN xs 1), .int .i64 (rfN xs 2), .int .i64 (rfN xs 3), .slice (rfA A c xs) (rfCu xs).length (rfC c xs)] 24) = X := ⟨_, rfl⟩
      obtain ⟨gn, hgn⟩ : ∃ k, w2.heap.size = k := ⟨_, rfl⟩
      rw [hW2, hgn] at HT
      rw [hW2] at Hb2
      rw [hW2, hgn]
      clear hW2 hgn
      obtain ⟨x0, x1, x2, x3, x4, x5, x6, x7⟩ := row8_cells HT.out.ra
      obtain ⟨y0, y1, y2, y3, y4, y5, y6, y7⟩ := row8_cells HT.out.rb
      have Hc := Aside0.mk (rfCu_bs hE.out (HX.out.below HT.out.bel))
      have ms := msame_refl (b8 xs 4) (b8 xs 5) (b8 xs 6) (rfN xs 0) (rfN xs 1) (rfN xs 2) (rfN xs 3) (rfCu xs)
      go_wp2_with (first
        | (go_at_call 18; (with_reducible refine (rmsame_any (b8 xs 4) (b8 xs 5) (b8 xs 6) (rfN xs 0) (rfN xs 1) (rfN xs 2) (rfN xs 3) A1 (rfCu xs).length c1 (rfCu xs) (b8 xs 4) (b8 xs 5) (b8 xs 6) (rfN xs 0) (rfN xs 1) (rfN xs 2) (rfN xs 3) (rfA A c xs) (rfCu xs).length (rfC c xs) (rfCu xs) _ Hb2.out Hc.out).mono ?_); rintro e wa ⟨rfl, hB⟩; rw [ms]; (replace HT := Aside0.mk (HT.out.step hB)); (replace Hb2 := Aside0.mk (Hb2.out.below hB)); clear hB; (obtain ⟨x0, x1, x2, x3, x4, x5, x6, x7⟩ := row8_cells HT.out.ra))
        | (go_at_call 10; (with_reducible refine (menc_back A1 c1 xs _ Hb2.out hE.out).mono ?_); rintro e wa ⟨hB, A2, c2, rfl, hO2⟩; (have HO := Aside0.mk hO2.bs); (replace HT := Aside0.mk (HT.out.step hB)); clear hB hO2)
        | (go_at_call 12; (with_reducible refine (equal8_any A2 xs.length c2 xs A n c xs _ HO.out (HX.out.below HT.out.bel)).mono ?_); rintro e wa ⟨rfl, rfl⟩; rw [e1])
        | (go_at_call 9; (with_reducible refine (alive09_any _).mono ?_); rintro e wa ⟨rfl, hB⟩; (replace HT := Aside0.mk (HT.out.step hB)); (replace HO := Aside0.mk (HO.out.below hB)); clear hB))
      go_ret
      exact ⟨rfl, HT.out.bel⟩
    · have q0 : (E == 0) = false := beq_eq_false_iff_ne.2 h0
      have hE := Aside0.mk hE
      have h0 := Aside0.mk h0
      refine (mdec_no A n c xs w HX.out hE.out h0.out).mono ?_
      rintro e w1 ⟨hB1, rfl⟩
      go_wp2_with fail
      have R1 := Aside0.mk (heap_alloc_new w1 (.cells #[.int .i64 0, .int .i64 0, .int .i64 0, .int .i64 0, .int .i64 0, .int .i64 0, .int .i64 0, .slice none 0 0] 26))
      have HB1 := Aside0.mk (below_then hB1 hB1.size ((Below.refl _ w1).alloc (Nat.le_refl _) (.cells #[.int .i64 0, .int .i64 0, .int .i64 0, .int .i64 0, .int .i64 0, .int .i64 0, .int .i64 0, .slice none 0 0] 26)))
      obtain ⟨W1, hW1⟩ : ∃ X, w1.alloc (.cells #[.int .i64 0, .int .i64 0, .int .i64 0, .int .i64 0, .int .i64 0, .int .i64 0, .int .i64 0, .slice none 0 0] 26) = X := ⟨_, rfl⟩
      obtain ⟨gm, hgm⟩ : ∃ k, w1.heap.size = k := ⟨_, rfl⟩
      rw [hW1, hgm] at R1
      rw [hW1] at HB1
      rw [hW1, hgm]
      clear hW1 hgm hB1
      refine (rdec_no A n c xs W1 (HX.out.below HB1.out) hE.out h0.out).mono ?_
      rintro e w2 ⟨hB2, rfl⟩
      have HT := Aside0.mk (show T2 w gm #[.int .i64 0, .int .i64 0, .int .i64 0, .int .i64 0, .int .i64 0, .int .i64 0, .int .i64 0, .slice none 0 0] w2.heap.size #[.int .i64 0, .int .i64 0, .int .i64 0, .int .i64 0, .int .i64 0, .int .i64 0, .int .i64 0, .slice none 0 0] (w2.alloc (.cells #[.int .i64 0, .int .i64 0, .int .i64 0, .int .i64 0, .int .i64 0, .int .i64 0, .int .i64 0, .slice none 0 0] 24)) from ⟨below_then (below_then HB1.out HB1.out.size hB2) (below_then HB1.out HB1.out.size hB2).size ((Below.refl _ w2).alloc (Nat.le_refl _) _), (Below.heap_alloc _ _ _ (Nat.lt_of_lt_of_le (Array.getElem?_eq_some_iff.1 R1.out).1 hB2.size)).trans ((hB2.block _ (Array.getElem?_eq_some_iff.1 R1.out).1).trans R1.out), heap_alloc_new w2 _⟩)
      clear hB2 R1 HB1
      go_upto_region 5 with fail
      obtain ⟨W2, hW2⟩ : ∃ X, w2.alloc (.cells #[.int .i64 0, .int .i64 0, .int .i64 0, .int .i64 0, .int .i64 0, .int .i64 0, .int .i64 0, .slice none 0 0] 24) = X := ⟨_, rfl⟩
      obtain ⟨gn, hgn⟩ : ∃ k, w2.heap.size = k := ⟨_, rfl⟩
      rw [hW2, hgn] at HT
      rw [hW2, hgn]
      clear hW2 hgn
      obtain ⟨x0, x1, x2, x3, x4, x5, x6, x7⟩ := row8_cells HT.out.ra
      obtain ⟨y0, y1, y2, y3, y4, y5, y6, y7⟩ := row8_cells HT.out.rb
      have ms := msame_refl 0 0 0 0 0 0 0 []
      go_wp2_with (first
        | (go_at_call 18; (with_reducible refine (rmsame_any 0 0 0 0 0 0 0 none 0 0 [] 0 0 0 0 0 0 0 none 0 0 [] _ (Bs.nil _ _ _ (by omega)) (Bs.nil _ _ _ (by omega))).mono ?_); rintro e wa ⟨rfl, hB⟩; rw [ms]; (replace HT := Aside0.mk (HT.out.step hB)); clear hB; (obtain ⟨x0, x1, x2, x3, x4, x5, x6, x7⟩ := row8_cells HT.out.ra))
        | (go_at_call 9; (with_reducible refine (alive09_any _).mono ?_); rintro e wa ⟨rfl, hB⟩; (replace HT := Aside0.mk (HT.out.step hB)); clear hB))
      go_ret
      exact ⟨rfl, HT.out.bel⟩
end Go.Proofs.Ytenibcbodjkglaa
