/- The walk of regaugeref09's Choose. -/
import Derived.Test.YtenibcbodjkglaaM10
import Derived.Test.YtenibcbodjkglaaM11
set_option linter.unusedVariables false
set_option linter.unusedSimpArgs false
namespace Go.Proofs.Ytenibcbodjkglaa
open Go.RowKit

theorem mffR (W : World) (a b c d e f k i : Value) : (Instr.field 24 (.agg #[a, b, c, d, e, f, k, i]) 3).run Try.prog W = .ok d W := by kernel_rfl
theorem ref_tx {xs : List UInt8} (h : refE xs = 0) : 0 < rfN xs 0 := by
  have := right_bounds (ref_ok h).2.2.2.2.2.2.2.2.2
  omega
structure SB0 (w W : World) : Prop where
  bel : Below w.heap.size w W
  res : W.heap[w.heap.size]? = some (.cells #[.int .i64 0, .int .i64 0, .int .i64 0, .int .i64 0, .int .i64 0, .int .i64 0, .int .i64 0, .slice none 0 0] 24)
theorem SB0.step {w W W1 : World} (h : SB0 w W) (hB : Below W.heap.size W W1) : SB0 w W1 :=
  ⟨below_then h.bel h.bel.size hB, (hB.block _ (Array.getElem?_eq_some_iff.1 h.res).1).trans h.res⟩

set_option maxHeartbeats 40000000 in
set_option maxRecDepth 100000 in
theorem rchoose_any (A : Option Addr) (n c : Nat) (xs : List UInt8) (B : Option Addr) (m d : Nat) (ys : List UInt8) (w : World) (hx : Bs w A n c xs) (hy : Bs w B m d ys) :
    Calls Try.prog 21 #[.slice A n c, .slice B m d] w fun e w' => Below w.heap.size w w' ∧ ((chAt (refE xs) (rfN xs 0) (refE ys) (rfN ys 0) = -1 ∧ e = .returned (.tuple #[.agg #[.int .i64 0, .int .i64 0, .int .i64 0, .int .i64 0, .int .i64 0, .int .i64 0, .int .i64 0, .slice none 0 0], .int .i64 (-1), .int .i64 (chE (refE xs) (refE ys))])) ∨ (chAt (refE xs) (rfN xs 0) (refE ys) (rfN ys 0) = 0 ∧ refE xs = 0 ∧ e = .returned (.tuple #[.agg #[(.int .i64 (b8 xs 4)), (.int .i64 (b8 xs 5)), (.int .i64 (b8 xs 6)), (.int .i64 (rfN xs 0)), (.int .i64 (rfN xs 1)), (.int .i64 (rfN xs 2)), (.int .i64 (rfN xs 3)), (.slice (rfA A c xs) (rfCu xs).length (rfC c xs))], .int .i64 0, .int .i64 0])) ∨ (chAt (refE xs) (rfN xs 0) (refE ys) (rfN ys 0) = 1 ∧ refE ys = 0 ∧ e = .returned (.tuple #[.agg #[(.int .i64 (b8 ys 4)), (.int .i64 (b8 ys 5)), (.int .i64 (b8 ys 6)), (.int .i64 (rfN ys 0)), (.int .i64 (rfN ys 1)), (.int .i64 (rfN ys 2)), (.int .i64 (rfN ys 3)), (.slice (rfA B d ys) (rfCu ys).length (rfC d ys))], .int .i64 1, .int .i64 0]))) := by
  have HX := Aside0.mk hx
  have HY := Aside0.mk hy
  clear hx hy
  have H0 := Aside0.mk (show SB0 w (w.alloc (.cells #[.int .i64 0, .int .i64 0, .int .i64 0, .int .i64 0, .int .i64 0, .int .i64 0, .int .i64 0, .slice none 0 0] 24)) from ⟨(Below.refl _ w).alloc (Nat.le_refl _) _, heap_alloc_new w _⟩)
  go_enter Try.func21, Try.ntmps21
  go_wp2_with fail
  obtain ⟨W0, hW0⟩ : ∃ X, w.alloc (.cells #[.int .i64 0, .int .i64 0, .int .i64 0, .int .i64 0, .int .i64 0, .int .i64 0, .int .i64 0, .slice none 0 0] 24) = X := ⟨_, rfl⟩
  rw [hW0] at H0 ⊢
  clear hW0
  have ff := fun W a b c d e f k i => mffR W a b c d e f k i
  by_cases hx : refE xs = 0
  · have qx := ref_tx hx
    have ix : (rfN xs 0).tmod 2 = rfN xs 0 % 2 := Int.tmod_eq_emod_of_nonneg (Int.le_of_lt qx)
    replace hx := Aside0.mk hx
    by_cases px : rfN xs 0 % 2 = 0
    · have gx : (rfN xs 0 % 2 == 0) = true := beq_iff_eq.2 px
      replace px := Aside0.mk px
      by_cases hy : refE ys = 0
      · have qy := ref_tx hy
        have iy : (rfN ys 0).tmod 2 = rfN ys 0 % 2 := Int.tmod_eq_emod_of_nonneg (Int.le_of_lt qy)
        replace hy := Aside0.mk hy
        by_cases py : rfN ys 0 % 2 = 1
        · have gy : (rfN ys 0 % 2 == 1) = true := beq_iff_eq.2 py
          replace py := Aside0.mk py
          by_cases hg : rfN ys 0 < rfN xs 0
          · have dg : decide (rfN ys 0 < rfN xs 0) = true := decide_eq_true hg
            (with_reducible refine (rdecode_any A n c xs W0 (HX.out.below H0.out.bel)).mono ?_)
            rintro e w1 ⟨hB, hc⟩
            (have hc := hc.resolve_left (fun k => k.1 hx.out))
            (obtain ⟨_, rfl⟩ := hc)
            (have H1 := Aside0.mk (show SB0 w (w1.alloc (.cells #[(.int .i64 (b8 xs 4)), (.int .i64 (b8 xs 5)), (.int .i64 (b8 xs 6)), (.int .i64 (rfN xs 0)), (.int .i64 (rfN xs 1)), (.int .i64 (rfN xs 2)), (.int .i64 (rfN xs 3)), (.slice (rfA A c xs) (rfCu xs).length (rfC c xs))] 24)) from (H0.out.step hB).step ((Below.refl _ w1).alloc (Nat.le_refl _) _)))
            clear hB
            (have R1 := Aside0.mk (heap_alloc_new w1 (.cells #[(.int .i64 (b8 xs 4)), (.int .i64 (b8 xs 5)), (.int .i64 (b8 xs 6)), (.int .i64 (rfN xs 0)), (.int .i64 (rfN xs 1)), (.int .i64 (rfN xs 2)), (.int .i64 (rfN xs 3)), (.slice (rfA A c xs) (rfCu xs).length (rfC c xs))] 24)))
            (obtain ⟨W1, hW1⟩ : ∃ X, w1.alloc (.cells #[(.int .i64 (b8 xs 4)), (.int .i64 (b8 xs 5)), (.int .i64 (b8 xs 6)), (.int .i64 (rfN xs 0)), (.int .i64 (rfN xs 1)), (.int .i64 (rfN xs 2)), (.int .i64 (rfN xs 3)), (.slice (rfA A c xs) (rfCu xs).length (rfC c xs))] 24) = X := ⟨_, rfl⟩)
            rw [hW1] at H1 R1
            go_wp2_with (go_at_call 19; (with_reducible refine (rdecode_any B m d ys W1 (HY.out.below H1.out.bel)).mono ?_); rintro e w2 ⟨hB, hc⟩; (have hc := hc.resolve_left (fun k => k.1 hy.out)); (obtain ⟨_, rfl⟩ := hc); (have H2 := Aside0.mk (show SB0 w (w2.alloc (.cells #[(.int .i64 (b8 ys 4)), (.int .i64 (b8 ys 5)), (.int .i64 (b8 ys 6)), (.int .i64 (rfN ys 0)), (.int .i64 (rfN ys 1)), (.int .i64 (rfN ys 2)), (.int .i64 (rfN ys 3)), (.slice (rfA B d ys) (rfCu ys).length (rfC d ys))] 24)) from (H1.out.step hB).step ((Below.refl _ w2).alloc (Nat.le_refl _) _))); (have Q1 := Aside0.mk ((Below.heap_alloc w2 (.cells #[(.int .i64 (b8 ys 4)), (.int .i64 (b8 ys 5)), (.int .i64 (b8 ys 6)), (.int .i64 (rfN ys 0)), (.int .i64 (rfN ys 1)), (.int .i64 (rfN ys 2)), (.int .i64 (rfN ys 3)), (.slice (rfA B d ys) (rfCu ys).length (rfC d ys))] 24) w1.heap.size (Nat.lt_of_lt_of_le (Array.getElem?_eq_some_iff.1 R1.out).1 hB.size)).trans ((hB.block _ (Array.getElem?_eq_some_iff.1 R1.out).1).trans R1.out))); clear hB; (have R2 := Aside0.mk (heap_alloc_new w2 (.cells #[(.int .i64 (b8 ys 4)), (.int .i64 (b8 ys 5)), (.int .i64 (b8 ys 6)), (.int .i64 (rfN ys 0)), (.int .i64 (rfN ys 1)), (.int .i64 (rfN ys 2)), (.int .i64 (rfN ys 3)), (.slice (rfA B d ys) (rfCu ys).length (rfC d ys))] 24))); (obtain ⟨W2, hW2⟩ : ∃ X, w2.alloc (.cells #[(.int .i64 (b8 ys 4)), (.int .i64 (b8 ys 5)), (.int .i64 (b8 ys 6)), (.int .i64 (rfN ys 0)), (.int .i64 (rfN ys 1)), (.int .i64 (rfN ys 2)), (.int .i64 (rfN ys 3)), (.slice (rfA B d ys) (rfCu ys).length (rfC d ys))] 24) = X := ⟨_, rfl⟩); rw [hW2] at H2 Q1 R2; (obtain ⟨a0, a1, a2, a3, a4, a5, a6, a7⟩ := row8_cells Q1.out); (obtain ⟨e0, e1, e2, e3, e4, e5, e6, e7⟩ := row8_cells R2.out); (obtain ⟨y0, y1, y2, y3, y4, y5, y6, y7⟩ := row8_cells H2.out.res); (have yf := fun j => Go.Joins.unfrozen_of_block H2.out.res j))
            have opx := px.out
            have opy := py.out
            have hL := rmload (row8_set (.int .i64 (b8 xs 4)) (.int .i64 (b8 xs 5)) (.int .i64 (b8 xs 6)) (.int .i64 (rfN xs 0)) (.int .i64 (rfN xs 1)) (.int .i64 (rfN xs 2)) (.int .i64 (rfN xs 3)) (.slice (rfA A c xs) (rfCu xs).length (rfC c xs)) H2.out.res)
            have h1 := hx.out
            have h2 := hy.out
            have hch : chAt (refE xs) (rfN xs 0) (refE ys) (rfN ys 0) = 0 := by unfold chAt; (repeat' split) <;> omega
            refine bodyPost_ret (v := .tuple #[.agg #[(.int .i64 (b8 xs 4)), (.int .i64 (b8 xs 5)), (.int .i64 (b8 xs 6)), (.int .i64 (rfN xs 0)), (.int .i64 (rfN xs 1)), (.int .i64 (rfN xs 2)), (.int .i64 (rfN xs 3)), (.slice (rfA A c xs) (rfCu xs).length (rfC c xs))], .int .i64 0, .int .i64 0]) (by simp [results, Try.results21, asAddr, hL]) rfl ⟨below_set8 _ _ _ _ _ _ _ _ H2.out.bel (Nat.le_refl _), .inr (.inl ⟨hch, h1, rfl⟩)⟩
          · have dg : decide (rfN ys 0 < rfN xs 0) = false := decide_eq_false hg
            (with_reducible refine (rdecode_any A n c xs W0 (HX.out.below H0.out.bel)).mono ?_)
            rintro e w1 ⟨hB, hc⟩
            (have hc := hc.resolve_left (fun k => k.1 hx.out))
            (obtain ⟨_, rfl⟩ := hc)
            (have H1 := Aside0.mk (show SB0 w (w1.alloc (.cells #[(.int .i64 (b8 xs 4)), (.int .i64 (b8 xs 5)), (.int .i64 (b8 xs 6)), (.int .i64 (rfN xs 0)), (.int .i64 (rfN xs 1)), (.int .i64 (rfN xs 2)), (.int .i64 (rfN xs 3)), (.slice (rfA A c xs) (rfCu xs).length (rfC c xs))] 24)) from (H0.out.step hB).step ((Below.refl _ w1).alloc (Nat.le_refl _) _)))
            clear hB
            (have R1 := Aside0.mk (heap_alloc_new w1 (.cells #[(.int .i64 (b8 xs 4)), (.int .i64 (b8 xs 5)), (.int .i64 (b8 xs 6)), (.int .i64 (rfN xs 0)), (.int .i64 (rfN xs 1)), (.int .i64 (rfN xs 2)), (.int .i64 (rfN xs 3)), (.slice (rfA A c xs) (rfCu xs).length (rfC c xs))] 24)))
            (obtain ⟨W1, hW1⟩ : ∃ X, w1.alloc (.cells #[(.int .i64 (b8 xs 4)), (.int .i64 (b8 xs 5)), (.int .i64 (b8 xs 6)), (.int .i64 (rfN xs 0)), (.int .i64 (rfN xs 1)), (.int .i64 (rfN xs 2)), (.int .i64 (rfN xs 3)), (.slice (rfA A c xs) (rfCu xs).length (rfC c xs))] 24) = X := ⟨_, rfl⟩)
            rw [hW1] at H1 R1
            go_wp2_with (go_at_call 19; (with_reducible refine (rdecode_any B m d ys W1 (HY.out.below H1.out.bel)).mono ?_); rintro e w2 ⟨hB, hc⟩; (have hc := hc.resolve_left (fun k => k.1 hy.out)); (obtain ⟨_, rfl⟩ := hc); (have H2 := Aside0.mk (show SB0 w (w2.alloc (.cells #[(.int .i64 (b8 ys 4)), (.int .i64 (b8 ys 5)), (.int .i64 (b8 ys 6)), (.int .i64 (rfN ys 0)), (.int .i64 (rfN ys 1)), (.int .i64 (rfN ys 2)), (.int .i64 (rfN ys 3)), (.slice (rfA B d ys) (rfCu ys).length (rfC d ys))] 24)) from (H1.out.step hB).step ((Below.refl _ w2).alloc (Nat.le_refl _) _))); (have Q1 := Aside0.mk ((Below.heap_alloc w2 (.cells #[(.int .i64 (b8 ys 4)), (.int .i64 (b8 ys 5)), (.int .i64 (b8 ys 6)), (.int .i64 (rfN ys 0)), (.int .i64 (rfN ys 1)), (.int .i64 (rfN ys 2)), (.int .i64 (rfN ys 3)), (.slice (rfA B d ys) (rfCu ys).length (rfC d ys))] 24) w1.heap.size (Nat.lt_of_lt_of_le (Array.getElem?_eq_some_iff.1 R1.out).1 hB.size)).trans ((hB.block _ (Array.getElem?_eq_some_iff.1 R1.out).1).trans R1.out))); clear hB; (have R2 := Aside0.mk (heap_alloc_new w2 (.cells #[(.int .i64 (b8 ys 4)), (.int .i64 (b8 ys 5)), (.int .i64 (b8 ys 6)), (.int .i64 (rfN ys 0)), (.int .i64 (rfN ys 1)), (.int .i64 (rfN ys 2)), (.int .i64 (rfN ys 3)), (.slice (rfA B d ys) (rfCu ys).length (rfC d ys))] 24))); (obtain ⟨W2, hW2⟩ : ∃ X, w2.alloc (.cells #[(.int .i64 (b8 ys 4)), (.int .i64 (b8 ys 5)), (.int .i64 (b8 ys 6)), (.int .i64 (rfN ys 0)), (.int .i64 (rfN ys 1)), (.int .i64 (rfN ys 2)), (.int .i64 (rfN ys 3)), (.slice (rfA B d ys) (rfCu ys).length (rfC d ys))] 24) = X := ⟨_, rfl⟩); rw [hW2] at H2 Q1 R2; (obtain ⟨a0, a1, a2, a3, a4, a5, a6, a7⟩ := row8_cells Q1.out); (obtain ⟨e0, e1, e2, e3, e4, e5, e6, e7⟩ := row8_cells R2.out); (obtain ⟨y0, y1, y2, y3, y4, y5, y6, y7⟩ := row8_cells H2.out.res); (have yf := fun j => Go.Joins.unfrozen_of_block H2.out.res j))
            have opx := px.out
            have opy := py.out
            have hL := rmload (row8_set (.int .i64 (b8 ys 4)) (.int .i64 (b8 ys 5)) (.int .i64 (b8 ys 6)) (.int .i64 (rfN ys 0)) (.int .i64 (rfN ys 1)) (.int .i64 (rfN ys 2)) (.int .i64 (rfN ys 3)) (.slice (rfA B d ys) (rfCu ys).length (rfC d ys)) H2.out.res)
            have h1 := hx.out
            have h2 := hy.out
            have hch : chAt (refE xs) (rfN xs 0) (refE ys) (rfN ys 0) = 1 := by unfold chAt; (repeat' split) <;> omega
            refine bodyPost_ret (v := .tuple #[.agg #[(.int .i64 (b8 ys 4)), (.int .i64 (b8 ys 5)), (.int .i64 (b8 ys 6)), (.int .i64 (rfN ys 0)), (.int .i64 (rfN ys 1)), (.int .i64 (rfN ys 2)), (.int .i64 (rfN ys 3)), (.slice (rfA B d ys) (rfCu ys).length (rfC d ys))], .int .i64 1, .int .i64 0]) (by simp [results, Try.results21, asAddr, hL]) rfl ⟨below_set8 _ _ _ _ _ _ _ _ H2.out.bel (Nat.le_refl _), .inr (.inr ⟨hch, h2, rfl⟩)⟩
        · have gy : (rfN ys 0 % 2 == 1) = false := beq_eq_false_iff_ne.2 py
          replace py := Aside0.mk py
          (with_reducible refine (rdecode_any A n c xs W0 (HX.out.below H0.out.bel)).mono ?_)
          rintro e w1 ⟨hB, hc⟩
          (have hc := hc.resolve_left (fun k => k.1 hx.out))
          (obtain ⟨_, rfl⟩ := hc)
          (have H1 := Aside0.mk (show SB0 w (w1.alloc (.cells #[(.int .i64 (b8 xs 4)), (.int .i64 (b8 xs 5)), (.int .i64 (b8 xs 6)), (.int .i64 (rfN xs 0)), (.int .i64 (rfN xs 1)), (.int .i64 (rfN xs 2)), (.int .i64 (rfN xs 3)), (.slice (rfA A c xs) (rfCu xs).length (rfC c xs))] 24)) from (H0.out.step hB).step ((Below.refl _ w1).alloc (Nat.le_refl _) _)))
          clear hB
          (have R1 := Aside0.mk (heap_alloc_new w1 (.cells #[(.int .i64 (b8 xs 4)), (.int .i64 (b8 xs 5)), (.int .i64 (b8 xs 6)), (.int .i64 (rfN xs 0)), (.int .i64 (rfN xs 1)), (.int .i64 (rfN xs 2)), (.int .i64 (rfN xs 3)), (.slice (rfA A c xs) (rfCu xs).length (rfC c xs))] 24)))
          (obtain ⟨W1, hW1⟩ : ∃ X, w1.alloc (.cells #[(.int .i64 (b8 xs 4)), (.int .i64 (b8 xs 5)), (.int .i64 (b8 xs 6)), (.int .i64 (rfN xs 0)), (.int .i64 (rfN xs 1)), (.int .i64 (rfN xs 2)), (.int .i64 (rfN xs 3)), (.slice (rfA A c xs) (rfCu xs).length (rfC c xs))] 24) = X := ⟨_, rfl⟩)
          rw [hW1] at H1 R1
          go_wp2_with (go_at_call 19; (with_reducible refine (rdecode_any B m d ys W1 (HY.out.below H1.out.bel)).mono ?_); rintro e w2 ⟨hB, hc⟩; (have hc := hc.resolve_left (fun k => k.1 hy.out)); (obtain ⟨_, rfl⟩ := hc); (have H2 := Aside0.mk (show SB0 w (w2.alloc (.cells #[(.int .i64 (b8 ys 4)), (.int .i64 (b8 ys 5)), (.int .i64 (b8 ys 6)), (.int .i64 (rfN ys 0)), (.int .i64 (rfN ys 1)), (.int .i64 (rfN ys 2)), (.int .i64 (rfN ys 3)), (.slice (rfA B d ys) (rfCu ys).length (rfC d ys))] 24)) from (H1.out.step hB).step ((Below.refl _ w2).alloc (Nat.le_refl _) _))); (have Q1 := Aside0.mk ((Below.heap_alloc w2 (.cells #[(.int .i64 (b8 ys 4)), (.int .i64 (b8 ys 5)), (.int .i64 (b8 ys 6)), (.int .i64 (rfN ys 0)), (.int .i64 (rfN ys 1)), (.int .i64 (rfN ys 2)), (.int .i64 (rfN ys 3)), (.slice (rfA B d ys) (rfCu ys).length (rfC d ys))] 24) w1.heap.size (Nat.lt_of_lt_of_le (Array.getElem?_eq_some_iff.1 R1.out).1 hB.size)).trans ((hB.block _ (Array.getElem?_eq_some_iff.1 R1.out).1).trans R1.out))); clear hB; (have R2 := Aside0.mk (heap_alloc_new w2 (.cells #[(.int .i64 (b8 ys 4)), (.int .i64 (b8 ys 5)), (.int .i64 (b8 ys 6)), (.int .i64 (rfN ys 0)), (.int .i64 (rfN ys 1)), (.int .i64 (rfN ys 2)), (.int .i64 (rfN ys 3)), (.slice (rfA B d ys) (rfCu ys).length (rfC d ys))] 24))); (obtain ⟨W2, hW2⟩ : ∃ X, w2.alloc (.cells #[(.int .i64 (b8 ys 4)), (.int .i64 (b8 ys 5)), (.int .i64 (b8 ys 6)), (.int .i64 (rfN ys 0)), (.int .i64 (rfN ys 1)), (.int .i64 (rfN ys 2)), (.int .i64 (rfN ys 3)), (.slice (rfA B d ys) (rfCu ys).length (rfC d ys))] 24) = X := ⟨_, rfl⟩); rw [hW2] at H2 Q1 R2; (obtain ⟨a0, a1, a2, a3, a4, a5, a6, a7⟩ := row8_cells Q1.out); (obtain ⟨e0, e1, e2, e3, e4, e5, e6, e7⟩ := row8_cells R2.out); (obtain ⟨y0, y1, y2, y3, y4, y5, y6, y7⟩ := row8_cells H2.out.res); (have yf := fun j => Go.Joins.unfrozen_of_block H2.out.res j))
          have opx := px.out
          have opy := py.out
          have hL := rmload (row8_set (.int .i64 (b8 xs 4)) (.int .i64 (b8 xs 5)) (.int .i64 (b8 xs 6)) (.int .i64 (rfN xs 0)) (.int .i64 (rfN xs 1)) (.int .i64 (rfN xs 2)) (.int .i64 (rfN xs 3)) (.slice (rfA A c xs) (rfCu xs).length (rfC c xs)) H2.out.res)
          have h1 := hx.out
          have h2 := hy.out
          have hch : chAt (refE xs) (rfN xs 0) (refE ys) (rfN ys 0) = 0 := by unfold chAt; (repeat' split) <;> omega
          refine bodyPost_ret (v := .tuple #[.agg #[(.int .i64 (b8 xs 4)), (.int .i64 (b8 xs 5)), (.int .i64 (b8 xs 6)), (.int .i64 (rfN xs 0)), (.int .i64 (rfN xs 1)), (.int .i64 (rfN xs 2)), (.int .i64 (rfN xs 3)), (.slice (rfA A c xs) (rfCu xs).length (rfC c xs))], .int .i64 0, .int .i64 0]) (by simp [results, Try.results21, asAddr, hL]) rfl ⟨below_set8 _ _ _ _ _ _ _ _ H2.out.bel (Nat.le_refl _), .inr (.inl ⟨hch, h1, rfl⟩)⟩
      · have zy : (refE ys == 0) = false := beq_eq_false_iff_ne.2 hy
        replace hy := Aside0.mk hy
        by_cases ty : refE ys = 93
        · have uy : (refE ys == 93) = true := beq_iff_eq.2 ty
          replace ty := Aside0.mk ty
          (with_reducible refine (rdecode_any A n c xs W0 (HX.out.below H0.out.bel)).mono ?_)
          rintro e w1 ⟨hB, hc⟩
          (have hc := hc.resolve_left (fun k => k.1 hx.out))
          (obtain ⟨_, rfl⟩ := hc)
          (have H1 := Aside0.mk (show SB0 w (w1.alloc (.cells #[(.int .i64 (b8 xs 4)), (.int .i64 (b8 xs 5)), (.int .i64 (b8 xs 6)), (.int .i64 (rfN xs 0)), (.int .i64 (rfN xs 1)), (.int .i64 (rfN xs 2)), (.int .i64 (rfN xs 3)), (.slice (rfA A c xs) (rfCu xs).length (rfC c xs))] 24)) from (H0.out.step hB).step ((Below.refl _ w1).alloc (Nat.le_refl _) _)))
          clear hB
          (have R1 := Aside0.mk (heap_alloc_new w1 (.cells #[(.int .i64 (b8 xs 4)), (.int .i64 (b8 xs 5)), (.int .i64 (b8 xs 6)), (.int .i64 (rfN xs 0)), (.int .i64 (rfN xs 1)), (.int .i64 (rfN xs 2)), (.int .i64 (rfN xs 3)), (.slice (rfA A c xs) (rfCu xs).length (rfC c xs))] 24)))
          (obtain ⟨W1, hW1⟩ : ∃ X, w1.alloc (.cells #[(.int .i64 (b8 xs 4)), (.int .i64 (b8 xs 5)), (.int .i64 (b8 xs 6)), (.int .i64 (rfN xs 0)), (.int .i64 (rfN xs 1)), (.int .i64 (rfN xs 2)), (.int .i64 (rfN xs 3)), (.slice (rfA A c xs) (rfCu xs).length (rfC c xs))] 24) = X := ⟨_, rfl⟩)
          rw [hW1] at H1 R1
          go_wp2_with (go_at_call 19; (with_reducible refine (rdecode_any B m d ys W1 (HY.out.below H1.out.bel)).mono ?_); rintro e w2 ⟨hB, hc⟩; (have hc := hc.resolve_right (fun k => hy.out k.1)); (obtain ⟨_, rfl⟩ := hc); (have H2 := Aside0.mk (show SB0 w (w2.alloc (.cells #[.int .i64 0, .int .i64 0, .int .i64 0, .int .i64 0, .int .i64 0, .int .i64 0, .int .i64 0, .slice none 0 0] 24)) from (H1.out.step hB).step ((Below.refl _ w2).alloc (Nat.le_refl _) _))); (have Q1 := Aside0.mk ((Below.heap_alloc w2 (.cells #[.int .i64 0, .int .i64 0, .int .i64 0, .int .i64 0, .int .i64 0, .int .i64 0, .int .i64 0, .slice none 0 0] 24) w1.heap.size (Nat.lt_of_lt_of_le (Array.getElem?_eq_some_iff.1 R1.out).1 hB.size)).trans ((hB.block _ (Array.getElem?_eq_some_iff.1 R1.out).1).trans R1.out))); clear hB; (have R2 := Aside0.mk (heap_alloc_new w2 (.cells #[.int .i64 0, .int .i64 0, .int .i64 0, .int .i64 0, .int .i64 0, .int .i64 0, .int .i64 0, .slice none 0 0] 24))); (obtain ⟨a0, a1, a2, a3, a4, a5, a6, a7⟩ := row8_cells Q1.out); (obtain ⟨e0, e1, e2, e3, e4, e5, e6, e7⟩ := row8_cells R2.out); (obtain ⟨y0, y1, y2, y3, y4, y5, y6, y7⟩ := row8_cells H2.out.res); (have yf := fun j => Go.Joins.unfrozen_of_block H2.out.res j))
          have opx := px.out
          have oty := ty.out
          have hL := rmload (row8_set (.int .i64 (b8 xs 4)) (.int .i64 (b8 xs 5)) (.int .i64 (b8 xs 6)) (.int .i64 (rfN xs 0)) (.int .i64 (rfN xs 1)) (.int .i64 (rfN xs 2)) (.int .i64 (rfN xs 3)) (.slice (rfA A c xs) (rfCu xs).length (rfC c xs)) H2.out.res)
          have h1 := hx.out
          have h2 := hy.out
          have hch : chAt (refE xs) (rfN xs 0) (refE ys) (rfN ys 0) = 0 := by unfold chAt; (repeat' split) <;> omega
          refine bodyPost_ret (v := .tuple #[.agg #[(.int .i64 (b8 xs 4)), (.int .i64 (b8 xs 5)), (.int .i64 (b8 xs 6)), (.int .i64 (rfN xs 0)), (.int .i64 (rfN xs 1)), (.int .i64 (rfN xs 2)), (.int .i64 (rfN xs 3)), (.slice (rfA A c xs) (rfCu xs).length (rfC c xs))], .int .i64 0, .int .i64 0]) (by simp [results, Try.results21, asAddr, hL]) rfl ⟨below_set8 _ _ _ _ _ _ _ _ H2.out.bel (Nat.le_refl _), .inr (.inl ⟨hch, h1, rfl⟩)⟩
        · have uy : (refE ys == 93) = false := beq_eq_false_iff_ne.2 ty
          replace ty := Aside0.mk ty
          (with_reducible refine (rdecode_any A n c xs W0 (HX.out.below H0.out.bel)).mono ?_)
          rintro e w1 ⟨hB, hc⟩
          (have hc := hc.resolve_left (fun k => k.1 hx.out))
          (obtain ⟨_, rfl⟩ := hc)
          (have H1 := Aside0.mk (show SB0 w (w1.alloc (.cells #[(.int .i64 (b8 xs 4)), (.int .i64 (b8 xs 5)), (.int .i64 (b8 xs 6)), (.int .i64 (rfN xs 0)), (.int .i64 (rfN xs 1)), (.int .i64 (rfN xs 2)), (.int .i64 (rfN xs 3)), (.slice (rfA A c xs) (rfCu xs).length (rfC c xs))] 24)) from (H0.out.step hB).step ((Below.refl _ w1).alloc (Nat.le_refl _) _)))
          clear hB
          (have R1 := Aside0.mk (heap_alloc_new w1 (.cells #[(.int .i64 (b8 xs 4)), (.int .i64 (b8 xs 5)), (.int .i64 (b8 xs 6)), (.int .i64 (rfN xs 0)), (.int .i64 (rfN xs 1)), (.int .i64 (rfN xs 2)), (.int .i64 (rfN xs 3)), (.slice (rfA A c xs) (rfCu xs).length (rfC c xs))] 24)))
          (obtain ⟨W1, hW1⟩ : ∃ X, w1.alloc (.cells #[(.int .i64 (b8 xs 4)), (.int .i64 (b8 xs 5)), (.int .i64 (b8 xs 6)), (.int .i64 (rfN xs 0)), (.int .i64 (rfN xs 1)), (.int .i64 (rfN xs 2)), (.int .i64 (rfN xs 3)), (.slice (rfA A c xs) (rfCu xs).length (rfC c xs))] 24) = X := ⟨_, rfl⟩)
          rw [hW1] at H1 R1
          go_wp2_with (go_at_call 19; (with_reducible refine (rdecode_any B m d ys W1 (HY.out.below H1.out.bel)).mono ?_); rintro e w2 ⟨hB, hc⟩; (have hc := hc.resolve_right (fun k => hy.out k.1)); (obtain ⟨_, rfl⟩ := hc); (have H2 := Aside0.mk (show SB0 w (w2.alloc (.cells #[.int .i64 0, .int .i64 0, .int .i64 0, .int .i64 0, .int .i64 0, .int .i64 0, .int .i64 0, .slice none 0 0] 24)) from (H1.out.step hB).step ((Below.refl _ w2).alloc (Nat.le_refl _) _))); (have Q1 := Aside0.mk ((Below.heap_alloc w2 (.cells #[.int .i64 0, .int .i64 0, .int .i64 0, .int .i64 0, .int .i64 0, .int .i64 0, .int .i64 0, .slice none 0 0] 24) w1.heap.size (Nat.lt_of_lt_of_le (Array.getElem?_eq_some_iff.1 R1.out).1 hB.size)).trans ((hB.block _ (Array.getElem?_eq_some_iff.1 R1.out).1).trans R1.out))); clear hB; (have R2 := Aside0.mk (heap_alloc_new w2 (.cells #[.int .i64 0, .int .i64 0, .int .i64 0, .int .i64 0, .int .i64 0, .int .i64 0, .int .i64 0, .slice none 0 0] 24))); (obtain ⟨a0, a1, a2, a3, a4, a5, a6, a7⟩ := row8_cells Q1.out); (obtain ⟨e0, e1, e2, e3, e4, e5, e6, e7⟩ := row8_cells R2.out); (obtain ⟨y0, y1, y2, y3, y4, y5, y6, y7⟩ := row8_cells H2.out.res); (have yf := fun j => Go.Joins.unfrozen_of_block H2.out.res j))
          have opx := px.out
          have oty := ty.out
          have hL := rmload (row8_set (.int .i64 (b8 xs 4)) (.int .i64 (b8 xs 5)) (.int .i64 (b8 xs 6)) (.int .i64 (rfN xs 0)) (.int .i64 (rfN xs 1)) (.int .i64 (rfN xs 2)) (.int .i64 (rfN xs 3)) (.slice (rfA A c xs) (rfCu xs).length (rfC c xs)) H2.out.res)
          have h1 := hx.out
          have h2 := hy.out
          have hch : chAt (refE xs) (rfN xs 0) (refE ys) (rfN ys 0) = 0 := by unfold chAt; (repeat' split) <;> omega
          refine bodyPost_ret (v := .tuple #[.agg #[(.int .i64 (b8 xs 4)), (.int .i64 (b8 xs 5)), (.int .i64 (b8 xs 6)), (.int .i64 (rfN xs 0)), (.int .i64 (rfN xs 1)), (.int .i64 (rfN xs 2)), (.int .i64 (rfN xs 3)), (.slice (rfA A c xs) (rfCu xs).length (rfC c xs))], .int .i64 0, .int .i64 0]) (by simp [results, Try.results21, asAddr, hL]) rfl ⟨below_set8 _ _ _ _ _ _ _ _ H2.out.bel (Nat.le_refl _), .inr (.inl ⟨hch, h1, rfl⟩)⟩
    · have gx : (rfN xs 0 % 2 == 0) = false := beq_eq_false_iff_ne.2 px
      replace px := Aside0.mk px
      by_cases hy : refE ys = 0
      · have qy := ref_tx hy
        have iy : (rfN ys 0).tmod 2 = rfN ys 0 % 2 := Int.tmod_eq_emod_of_nonneg (Int.le_of_lt qy)
        replace hy := Aside0.mk hy
        by_cases py : rfN ys 0 % 2 = 1
        · have gy : (rfN ys 0 % 2 == 1) = true := beq_iff_eq.2 py
          replace py := Aside0.mk py
          (with_reducible refine (rdecode_any A n c xs W0 (HX.out.below H0.out.bel)).mono ?_)
          rintro e w1 ⟨hB, hc⟩
          (have hc := hc.resolve_left (fun k => k.1 hx.out))
          (obtain ⟨_, rfl⟩ := hc)
          (have H1 := Aside0.mk (show SB0 w (w1.alloc (.cells #[(.int .i64 (b8 xs 4)), (.int .i64 (b8 xs 5)), (.int .i64 (b8 xs 6)), (.int .i64 (rfN xs 0)), (.int .i64 (rfN xs 1)), (.int .i64 (rfN xs 2)), (.int .i64 (rfN xs 3)), (.slice (rfA A c xs) (rfCu xs).length (rfC c xs))] 24)) from (H0.out.step hB).step ((Below.refl _ w1).alloc (Nat.le_refl _) _)))
          clear hB
          (have R1 := Aside0.mk (heap_alloc_new w1 (.cells #[(.int .i64 (b8 xs 4)), (.int .i64 (b8 xs 5)), (.int .i64 (b8 xs 6)), (.int .i64 (rfN xs 0)), (.int .i64 (rfN xs 1)), (.int .i64 (rfN xs 2)), (.int .i64 (rfN xs 3)), (.slice (rfA A c xs) (rfCu xs).length (rfC c xs))] 24)))
          (obtain ⟨W1, hW1⟩ : ∃ X, w1.alloc (.cells #[(.int .i64 (b8 xs 4)), (.int .i64 (b8 xs 5)), (.int .i64 (b8 xs 6)), (.int .i64 (rfN xs 0)), (.int .i64 (rfN xs 1)), (.int .i64 (rfN xs 2)), (.int .i64 (rfN xs 3)), (.slice (rfA A c xs) (rfCu xs).length (rfC c xs))] 24) = X := ⟨_, rfl⟩)
          rw [hW1] at H1 R1
          go_wp2_with (go_at_call 19; (with_reducible refine (rdecode_any B m d ys W1 (HY.out.below H1.out.bel)).mono ?_); rintro e w2 ⟨hB, hc⟩; (have hc := hc.resolve_left (fun k => k.1 hy.out)); (obtain ⟨_, rfl⟩ := hc); (have H2 := Aside0.mk (show SB0 w (w2.alloc (.cells #[(.int .i64 (b8 ys 4)), (.int .i64 (b8 ys 5)), (.int .i64 (b8 ys 6)), (.int .i64 (rfN ys 0)), (.int .i64 (rfN ys 1)), (.int .i64 (rfN ys 2)), (.int .i64 (rfN ys 3)), (.slice (rfA B d ys) (rfCu ys).length (rfC d ys))] 24)) from (H1.out.step hB).step ((Below.refl _ w2).alloc (Nat.le_refl _) _))); (have Q1 := Aside0.mk ((Below.heap_alloc w2 (.cells #[(.int .i64 (b8 ys 4)), (.int .i64 (b8 ys 5)), (.int .i64 (b8 ys 6)), (.int .i64 (rfN ys 0)), (.int .i64 (rfN ys 1)), (.int .i64 (rfN ys 2)), (.int .i64 (rfN ys 3)), (.slice (rfA B d ys) (rfCu ys).length (rfC d ys))] 24) w1.heap.size (Nat.lt_of_lt_of_le (Array.getElem?_eq_some_iff.1 R1.out).1 hB.size)).trans ((hB.block _ (Array.getElem?_eq_some_iff.1 R1.out).1).trans R1.out))); clear hB; (have R2 := Aside0.mk (heap_alloc_new w2 (.cells #[(.int .i64 (b8 ys 4)), (.int .i64 (b8 ys 5)), (.int .i64 (b8 ys 6)), (.int .i64 (rfN ys 0)), (.int .i64 (rfN ys 1)), (.int .i64 (rfN ys 2)), (.int .i64 (rfN ys 3)), (.slice (rfA B d ys) (rfCu ys).length (rfC d ys))] 24))); (obtain ⟨W2, hW2⟩ : ∃ X, w2.alloc (.cells #[(.int .i64 (b8 ys 4)), (.int .i64 (b8 ys 5)), (.int .i64 (b8 ys 6)), (.int .i64 (rfN ys 0)), (.int .i64 (rfN ys 1)), (.int .i64 (rfN ys 2)), (.int .i64 (rfN ys 3)), (.slice (rfA B d ys) (rfCu ys).length (rfC d ys))] 24) = X := ⟨_, rfl⟩); rw [hW2] at H2 Q1 R2; (obtain ⟨a0, a1, a2, a3, a4, a5, a6, a7⟩ := row8_cells Q1.out); (obtain ⟨e0, e1, e2, e3, e4, e5, e6, e7⟩ := row8_cells R2.out); (obtain ⟨y0, y1, y2, y3, y4, y5, y6, y7⟩ := row8_cells H2.out.res); (have yf := fun j => Go.Joins.unfrozen_of_block H2.out.res j))
          have opx := px.out
          have opy := py.out
          have hL := rmload (row8_set (.int .i64 (b8 ys 4)) (.int .i64 (b8 ys 5)) (.int .i64 (b8 ys 6)) (.int .i64 (rfN ys 0)) (.int .i64 (rfN ys 1)) (.int .i64 (rfN ys 2)) (.int .i64 (rfN ys 3)) (.slice (rfA B d ys) (rfCu ys).length (rfC d ys)) H2.out.res)
          have h1 := hx.out
          have h2 := hy.out
          have hch : chAt (refE xs) (rfN xs 0) (refE ys) (rfN ys 0) = 1 := by unfold chAt; (repeat' split) <;> omega
          refine bodyPost_ret (v := .tuple #[.agg #[(.int .i64 (b8 ys 4)), (.int .i64 (b8 ys 5)), (.int .i64 (b8 ys 6)), (.int .i64 (rfN ys 0)), (.int .i64 (rfN ys 1)), (.int .i64 (rfN ys 2)), (.int .i64 (rfN ys 3)), (.slice (rfA B d ys) (rfCu ys).length (rfC d ys))], .int .i64 1, .int .i64 0]) (by simp [results, Try.results21, asAddr, hL]) rfl ⟨below_set8 _ _ _ _ _ _ _ _ H2.out.bel (Nat.le_refl _), .inr (.inr ⟨hch, h2, rfl⟩)⟩
        · have gy : (rfN ys 0 % 2 == 1) = false := beq_eq_false_iff_ne.2 py
          replace py := Aside0.mk py
          (with_reducible refine (rdecode_any A n c xs W0 (HX.out.below H0.out.bel)).mono ?_)
          rintro e w1 ⟨hB, hc⟩
          (have hc := hc.resolve_left (fun k => k.1 hx.out))
          (obtain ⟨_, rfl⟩ := hc)
          (have H1 := Aside0.mk (show SB0 w (w1.alloc (.cells #[(.int .i64 (b8 xs 4)), (.int .i64 (b8 xs 5)), (.int .i64 (b8 xs 6)), (.int .i64 (rfN xs 0)), (.int .i64 (rfN xs 1)), (.int .i64 (rfN xs 2)), (.int .i64 (rfN xs 3)), (.slice (rfA A c xs) (rfCu xs).length (rfC c xs))] 24)) from (H0.out.step hB).step ((Below.refl _ w1).alloc (Nat.le_refl _) _)))
          clear hB
          (have R1 := Aside0.mk (heap_alloc_new w1 (.cells #[(.int .i64 (b8 xs 4)), (.int .i64 (b8 xs 5)), (.int .i64 (b8 xs 6)), (.int .i64 (rfN xs 0)), (.int .i64 (rfN xs 1)), (.int .i64 (rfN xs 2)), (.int .i64 (rfN xs 3)), (.slice (rfA A c xs) (rfCu xs).length (rfC c xs))] 24)))
          (obtain ⟨W1, hW1⟩ : ∃ X, w1.alloc (.cells #[(.int .i64 (b8 xs 4)), (.int .i64 (b8 xs 5)), (.int .i64 (b8 xs 6)), (.int .i64 (rfN xs 0)), (.int .i64 (rfN xs 1)), (.int .i64 (rfN xs 2)), (.int .i64 (rfN xs 3)), (.slice (rfA A c xs) (rfCu xs).length (rfC c xs))] 24) = X := ⟨_, rfl⟩)
          rw [hW1] at H1 R1
          go_wp2_with (go_at_call 19; (with_reducible refine (rdecode_any B m d ys W1 (HY.out.below H1.out.bel)).mono ?_); rintro e w2 ⟨hB, hc⟩; (have hc := hc.resolve_left (fun k => k.1 hy.out)); (obtain ⟨_, rfl⟩ := hc); (have H2 := Aside0.mk (show SB0 w (w2.alloc (.cells #[(.int .i64 (b8 ys 4)), (.int .i64 (b8 ys 5)), (.int .i64 (b8 ys 6)), (.int .i64 (rfN ys 0)), (.int .i64 (rfN ys 1)), (.int .i64 (rfN ys 2)), (.int .i64 (rfN ys 3)), (.slice (rfA B d ys) (rfCu ys).length (rfC d ys))] 24)) from (H1.out.step hB).step ((Below.refl _ w2).alloc (Nat.le_refl _) _))); (have Q1 := Aside0.mk ((Below.heap_alloc w2 (.cells #[(.int .i64 (b8 ys 4)), (.int .i64 (b8 ys 5)), (.int .i64 (b8 ys 6)), (.int .i64 (rfN ys 0)), (.int .i64 (rfN ys 1)), (.int .i64 (rfN ys 2)), (.int .i64 (rfN ys 3)), (.slice (rfA B d ys) (rfCu ys).length (rfC d ys))] 24) w1.heap.size (Nat.lt_of_lt_of_le (Array.getElem?_eq_some_iff.1 R1.out).1 hB.size)).trans ((hB.block _ (Array.getElem?_eq_some_iff.1 R1.out).1).trans R1.out))); clear hB; (have R2 := Aside0.mk (heap_alloc_new w2 (.cells #[(.int .i64 (b8 ys 4)), (.int .i64 (b8 ys 5)), (.int .i64 (b8 ys 6)), (.int .i64 (rfN ys 0)), (.int .i64 (rfN ys 1)), (.int .i64 (rfN ys 2)), (.int .i64 (rfN ys 3)), (.slice (rfA B d ys) (rfCu ys).length (rfC d ys))] 24))); (obtain ⟨W2, hW2⟩ : ∃ X, w2.alloc (.cells #[(.int .i64 (b8 ys 4)), (.int .i64 (b8 ys 5)), (.int .i64 (b8 ys 6)), (.int .i64 (rfN ys 0)), (.int .i64 (rfN ys 1)), (.int .i64 (rfN ys 2)), (.int .i64 (rfN ys 3)), (.slice (rfA B d ys) (rfCu ys).length (rfC d ys))] 24) = X := ⟨_, rfl⟩); rw [hW2] at H2 Q1 R2; (obtain ⟨a0, a1, a2, a3, a4, a5, a6, a7⟩ := row8_cells Q1.out); (obtain ⟨e0, e1, e2, e3, e4, e5, e6, e7⟩ := row8_cells R2.out); (obtain ⟨y0, y1, y2, y3, y4, y5, y6, y7⟩ := row8_cells H2.out.res); (have yf := fun j => Go.Joins.unfrozen_of_block H2.out.res j))
          have opx := px.out
          have opy := py.out
          have hL := rmload (row8_set (.int .i64 0) (.int .i64 0) (.int .i64 0) (.int .i64 0) (.int .i64 0) (.int .i64 0) (.int .i64 0) (.slice none 0 0) H2.out.res)
          have h1 := hx.out
          have h2 := hy.out
          have hch : chAt (refE xs) (rfN xs 0) (refE ys) (rfN ys 0) = -1 := by unfold chAt; (repeat' split) <;> omega
          refine bodyPost_ret (v := .tuple #[.agg #[.int .i64 0, .int .i64 0, .int .i64 0, .int .i64 0, .int .i64 0, .int .i64 0, .int .i64 0, .slice none 0 0], .int .i64 (-1), .int .i64 92]) (by simp [results, Try.results21, asAddr, hL]) rfl ⟨below_set8 _ _ _ _ _ _ _ _ H2.out.bel (Nat.le_refl _), .inl ⟨hch, by rw [show chE (refE xs) (refE ys) = 92 from by unfold chE; split <;> omega]⟩⟩
      · have zy : (refE ys == 0) = false := beq_eq_false_iff_ne.2 hy
        replace hy := Aside0.mk hy
        by_cases ty : refE ys = 93
        · have uy : (refE ys == 93) = true := beq_iff_eq.2 ty
          replace ty := Aside0.mk ty
          (with_reducible refine (rdecode_any A n c xs W0 (HX.out.below H0.out.bel)).mono ?_)
          rintro e w1 ⟨hB, hc⟩
          (have hc := hc.resolve_left (fun k => k.1 hx.out))
          (obtain ⟨_, rfl⟩ := hc)
          (have H1 := Aside0.mk (show SB0 w (w1.alloc (.cells #[(.int .i64 (b8 xs 4)), (.int .i64 (b8 xs 5)), (.int .i64 (b8 xs 6)), (.int .i64 (rfN xs 0)), (.int .i64 (rfN xs 1)), (.int .i64 (rfN xs 2)), (.int .i64 (rfN xs 3)), (.slice (rfA A c xs) (rfCu xs).length (rfC c xs))] 24)) from (H0.out.step hB).step ((Below.refl _ w1).alloc (Nat.le_refl _) _)))
          clear hB
          (have R1 := Aside0.mk (heap_alloc_new w1 (.cells #[(.int .i64 (b8 xs 4)), (.int .i64 (b8 xs 5)), (.int .i64 (b8 xs 6)), (.int .i64 (rfN xs 0)), (.int .i64 (rfN xs 1)), (.int .i64 (rfN xs 2)), (.int .i64 (rfN xs 3)), (.slice (rfA A c xs) (rfCu xs).length (rfC c xs))] 24)))
          (obtain ⟨W1, hW1⟩ : ∃ X, w1.alloc (.cells #[(.int .i64 (b8 xs 4)), (.int .i64 (b8 xs 5)), (.int .i64 (b8 xs 6)), (.int .i64 (rfN xs 0)), (.int .i64 (rfN xs 1)), (.int .i64 (rfN xs 2)), (.int .i64 (rfN xs 3)), (.slice (rfA A c xs) (rfCu xs).length (rfC c xs))] 24) = X := ⟨_, rfl⟩)
          rw [hW1] at H1 R1
          go_wp2_with (go_at_call 19; (with_reducible refine (rdecode_any B m d ys W1 (HY.out.below H1.out.bel)).mono ?_); rintro e w2 ⟨hB, hc⟩; (have hc := hc.resolve_right (fun k => hy.out k.1)); (obtain ⟨_, rfl⟩ := hc); (have H2 := Aside0.mk (show SB0 w (w2.alloc (.cells #[.int .i64 0, .int .i64 0, .int .i64 0, .int .i64 0, .int .i64 0, .int .i64 0, .int .i64 0, .slice none 0 0] 24)) from (H1.out.step hB).step ((Below.refl _ w2).alloc (Nat.le_refl _) _))); (have Q1 := Aside0.mk ((Below.heap_alloc w2 (.cells #[.int .i64 0, .int .i64 0, .int .i64 0, .int .i64 0, .int .i64 0, .int .i64 0, .int .i64 0, .slice none 0 0] 24) w1.heap.size (Nat.lt_of_lt_of_le (Array.getElem?_eq_some_iff.1 R1.out).1 hB.size)).trans ((hB.block _ (Array.getElem?_eq_some_iff.1 R1.out).1).trans R1.out))); clear hB; (have R2 := Aside0.mk (heap_alloc_new w2 (.cells #[.int .i64 0, .int .i64 0, .int .i64 0, .int .i64 0, .int .i64 0, .int .i64 0, .int .i64 0, .slice none 0 0] 24))); (obtain ⟨a0, a1, a2, a3, a4, a5, a6, a7⟩ := row8_cells Q1.out); (obtain ⟨e0, e1, e2, e3, e4, e5, e6, e7⟩ := row8_cells R2.out); (obtain ⟨y0, y1, y2, y3, y4, y5, y6, y7⟩ := row8_cells H2.out.res); (have yf := fun j => Go.Joins.unfrozen_of_block H2.out.res j))
          have opx := px.out
          have oty := ty.out
          have hL := rmload (row8_set (.int .i64 0) (.int .i64 0) (.int .i64 0) (.int .i64 0) (.int .i64 0) (.int .i64 0) (.int .i64 0) (.slice none 0 0) H2.out.res)
          have h1 := hx.out
          have h2 := hy.out
          have hch : chAt (refE xs) (rfN xs 0) (refE ys) (rfN ys 0) = -1 := by unfold chAt; (repeat' split) <;> omega
          refine bodyPost_ret (v := .tuple #[.agg #[.int .i64 0, .int .i64 0, .int .i64 0, .int .i64 0, .int .i64 0, .int .i64 0, .int .i64 0, .slice none 0 0], .int .i64 (-1), .int .i64 93]) (by simp [results, Try.results21, asAddr, hL]) rfl ⟨below_set8 _ _ _ _ _ _ _ _ H2.out.bel (Nat.le_refl _), .inl ⟨hch, by rw [show chE (refE xs) (refE ys) = 93 from by unfold chE; split <;> omega]⟩⟩
        · have uy : (refE ys == 93) = false := beq_eq_false_iff_ne.2 ty
          replace ty := Aside0.mk ty
          (with_reducible refine (rdecode_any A n c xs W0 (HX.out.below H0.out.bel)).mono ?_)
          rintro e w1 ⟨hB, hc⟩
          (have hc := hc.resolve_left (fun k => k.1 hx.out))
          (obtain ⟨_, rfl⟩ := hc)
          (have H1 := Aside0.mk (show SB0 w (w1.alloc (.cells #[(.int .i64 (b8 xs 4)), (.int .i64 (b8 xs 5)), (.int .i64 (b8 xs 6)), (.int .i64 (rfN xs 0)), (.int .i64 (rfN xs 1)), (.int .i64 (rfN xs 2)), (.int .i64 (rfN xs 3)), (.slice (rfA A c xs) (rfCu xs).length (rfC c xs))] 24)) from (H0.out.step hB).step ((Below.refl _ w1).alloc (Nat.le_refl _) _)))
          clear hB
          (have R1 := Aside0.mk (heap_alloc_new w1 (.cells #[(.int .i64 (b8 xs 4)), (.int .i64 (b8 xs 5)), (.int .i64 (b8 xs 6)), (.int .i64 (rfN xs 0)), (.int .i64 (rfN xs 1)), (.int .i64 (rfN xs 2)), (.int .i64 (rfN xs 3)), (.slice (rfA A c xs) (rfCu xs).length (rfC c xs))] 24)))
          (obtain ⟨W1, hW1⟩ : ∃ X, w1.alloc (.cells #[(.int .i64 (b8 xs 4)), (.int .i64 (b8 xs 5)), (.int .i64 (b8 xs 6)), (.int .i64 (rfN xs 0)), (.int .i64 (rfN xs 1)), (.int .i64 (rfN xs 2)), (.int .i64 (rfN xs 3)), (.slice (rfA A c xs) (rfCu xs).length (rfC c xs))] 24) = X := ⟨_, rfl⟩)
          rw [hW1] at H1 R1
          go_wp2_with (go_at_call 19; (with_reducible refine (rdecode_any B m d ys W1 (HY.out.below H1.out.bel)).mono ?_); rintro e w2 ⟨hB, hc⟩; (have hc := hc.resolve_right (fun k => hy.out k.1)); (obtain ⟨_, rfl⟩ := hc); (have H2 := Aside0.mk (show SB0 w (w2.alloc (.cells #[.int .i64 0, .int .i64 0, .int .i64 0, .int .i64 0, .int .i64 0, .int .i64 0, .int .i64 0, .slice none 0 0] 24)) from (H1.out.step hB).step ((Below.refl _ w2).alloc (Nat.le_refl _) _))); (have Q1 := Aside0.mk ((Below.heap_alloc w2 (.cells #[.int .i64 0, .int .i64 0, .int .i64 0, .int .i64 0, .int .i64 0, .int .i64 0, .int .i64 0, .slice none 0 0] 24) w1.heap.size (Nat.lt_of_lt_of_le (Array.getElem?_eq_some_iff.1 R1.out).1 hB.size)).trans ((hB.block _ (Array.getElem?_eq_some_iff.1 R1.out).1).trans R1.out))); clear hB; (have R2 := Aside0.mk (heap_alloc_new w2 (.cells #[.int .i64 0, .int .i64 0, .int .i64 0, .int .i64 0, .int .i64 0, .int .i64 0, .int .i64 0, .slice none 0 0] 24))); (obtain ⟨a0, a1, a2, a3, a4, a5, a6, a7⟩ := row8_cells Q1.out); (obtain ⟨e0, e1, e2, e3, e4, e5, e6, e7⟩ := row8_cells R2.out); (obtain ⟨y0, y1, y2, y3, y4, y5, y6, y7⟩ := row8_cells H2.out.res); (have yf := fun j => Go.Joins.unfrozen_of_block H2.out.res j))
          have opx := px.out
          have oty := ty.out
          have hL := rmload (row8_set (.int .i64 0) (.int .i64 0) (.int .i64 0) (.int .i64 0) (.int .i64 0) (.int .i64 0) (.int .i64 0) (.slice none 0 0) H2.out.res)
          have h1 := hx.out
          have h2 := hy.out
          have hch : chAt (refE xs) (rfN xs 0) (refE ys) (rfN ys 0) = -1 := by unfold chAt; (repeat' split) <;> omega
          refine bodyPost_ret (v := .tuple #[.agg #[.int .i64 0, .int .i64 0, .int .i64 0, .int .i64 0, .int .i64 0, .int .i64 0, .int .i64 0, .slice none 0 0], .int .i64 (-1), .int .i64 92]) (by simp [results, Try.results21, asAddr, hL]) rfl ⟨below_set8 _ _ _ _ _ _ _ _ H2.out.bel (Nat.le_refl _), .inl ⟨hch, by rw [show chE (refE xs) (refE ys) = 92 from by unfold chE; split <;> omega]⟩⟩
  · have zx : (refE xs == 0) = false := beq_eq_false_iff_ne.2 hx
    replace hx := Aside0.mk hx
    by_cases tx : refE xs = 93
    · have ux : (refE xs == 93) = true := beq_iff_eq.2 tx
      replace tx := Aside0.mk tx
      by_cases hy : refE ys = 0
      · have qy := ref_tx hy
        have iy : (rfN ys 0).tmod 2 = rfN ys 0 % 2 := Int.tmod_eq_emod_of_nonneg (Int.le_of_lt qy)
        replace hy := Aside0.mk hy
        by_cases py : rfN ys 0 % 2 = 1
        · have gy : (rfN ys 0 % 2 == 1) = true := beq_iff_eq.2 py
          replace py := Aside0.mk py
          (with_reducible refine (rdecode_any A n c xs W0 (HX.out.below H0.out.bel)).mono ?_)
          rintro e w1 ⟨hB, hc⟩
          (have hc := hc.resolve_right (fun k => hx.out k.1))
          (obtain ⟨_, rfl⟩ := hc)
          (have H1 := Aside0.mk (show SB0 w (w1.alloc (.cells #[.int .i64 0, .int .i64 0, .int .i64 0, .int .i64 0, .int .i64 0, .int .i64 0, .int .i64 0, .slice none 0 0] 24)) from (H0.out.step hB).step ((Below.refl _ w1).alloc (Nat.le_refl _) _)))
          clear hB
          (have R1 := Aside0.mk (heap_alloc_new w1 (.cells #[.int .i64 0, .int .i64 0, .int .i64 0, .int .i64 0, .int .i64 0, .int .i64 0, .int .i64 0, .slice none 0 0] 24)))
          go_wp2_with (go_at_call 19; (obtain ⟨W1, hW1⟩ : ∃ X, w1.alloc (.cells #[.int .i64 0, .int .i64 0, .int .i64 0, .int .i64 0, .int .i64 0, .int .i64 0, .int .i64 0, .slice none 0 0] 24) = X := ⟨_, rfl⟩); rw [hW1] at H1 R1 ⊢; clear hW1; (with_reducible refine (rdecode_any B m d ys W1 (HY.out.below H1.out.bel)).mono ?_); rintro e w2 ⟨hB, hc⟩; (have hc := hc.resolve_left (fun k => k.1 hy.out)); (obtain ⟨_, rfl⟩ := hc); (have H2 := Aside0.mk (show SB0 w (w2.alloc (.cells #[(.int .i64 (b8 ys 4)), (.int .i64 (b8 ys 5)), (.int .i64 (b8 ys 6)), (.int .i64 (rfN ys 0)), (.int .i64 (rfN ys 1)), (.int .i64 (rfN ys 2)), (.int .i64 (rfN ys 3)), (.slice (rfA B d ys) (rfCu ys).length (rfC d ys))] 24)) from (H1.out.step hB).step ((Below.refl _ w2).alloc (Nat.le_refl _) _))); (have Q1 := Aside0.mk ((Below.heap_alloc w2 (.cells #[(.int .i64 (b8 ys 4)), (.int .i64 (b8 ys 5)), (.int .i64 (b8 ys 6)), (.int .i64 (rfN ys 0)), (.int .i64 (rfN ys 1)), (.int .i64 (rfN ys 2)), (.int .i64 (rfN ys 3)), (.slice (rfA B d ys) (rfCu ys).length (rfC d ys))] 24) w1.heap.size (Nat.lt_of_lt_of_le (Array.getElem?_eq_some_iff.1 R1.out).1 hB.size)).trans ((hB.block _ (Array.getElem?_eq_some_iff.1 R1.out).1).trans R1.out))); clear hB; (have R2 := Aside0.mk (heap_alloc_new w2 (.cells #[(.int .i64 (b8 ys 4)), (.int .i64 (b8 ys 5)), (.int .i64 (b8 ys 6)), (.int .i64 (rfN ys 0)), (.int .i64 (rfN ys 1)), (.int .i64 (rfN ys 2)), (.int .i64 (rfN ys 3)), (.slice (rfA B d ys) (rfCu ys).length (rfC d ys))] 24))); (obtain ⟨W2, hW2⟩ : ∃ X, w2.alloc (.cells #[(.int .i64 (b8 ys 4)), (.int .i64 (b8 ys 5)), (.int .i64 (b8 ys 6)), (.int .i64 (rfN ys 0)), (.int .i64 (rfN ys 1)), (.int .i64 (rfN ys 2)), (.int .i64 (rfN ys 3)), (.slice (rfA B d ys) (rfCu ys).length (rfC d ys))] 24) = X := ⟨_, rfl⟩); rw [hW2] at H2 Q1 R2; (obtain ⟨a0, a1, a2, a3, a4, a5, a6, a7⟩ := row8_cells Q1.out); (obtain ⟨e0, e1, e2, e3, e4, e5, e6, e7⟩ := row8_cells R2.out); (obtain ⟨y0, y1, y2, y3, y4, y5, y6, y7⟩ := row8_cells H2.out.res); (have yf := fun j => Go.Joins.unfrozen_of_block H2.out.res j))
          have otx := tx.out
          have opy := py.out
          have hL := rmload (row8_set (.int .i64 (b8 ys 4)) (.int .i64 (b8 ys 5)) (.int .i64 (b8 ys 6)) (.int .i64 (rfN ys 0)) (.int .i64 (rfN ys 1)) (.int .i64 (rfN ys 2)) (.int .i64 (rfN ys 3)) (.slice (rfA B d ys) (rfCu ys).length (rfC d ys)) H2.out.res)
          have h1 := hx.out
          have h2 := hy.out
          have hch : chAt (refE xs) (rfN xs 0) (refE ys) (rfN ys 0) = 1 := by unfold chAt; (repeat' split) <;> omega
          refine bodyPost_ret (v := .tuple #[.agg #[(.int .i64 (b8 ys 4)), (.int .i64 (b8 ys 5)), (.int .i64 (b8 ys 6)), (.int .i64 (rfN ys 0)), (.int .i64 (rfN ys 1)), (.int .i64 (rfN ys 2)), (.int .i64 (rfN ys 3)), (.slice (rfA B d ys) (rfCu ys).length (rfC d ys))], .int .i64 1, .int .i64 0]) (by simp [results, Try.results21, asAddr, hL]) rfl ⟨below_set8 _ _ _ _ _ _ _ _ H2.out.bel (Nat.le_refl _), .inr (.inr ⟨hch, h2, rfl⟩)⟩
        · have gy : (rfN ys 0 % 2 == 1) = false := beq_eq_false_iff_ne.2 py
          replace py := Aside0.mk py
          (with_reducible refine (rdecode_any A n c xs W0 (HX.out.below H0.out.bel)).mono ?_)
          rintro e w1 ⟨hB, hc⟩
          (have hc := hc.resolve_right (fun k => hx.out k.1))
          (obtain ⟨_, rfl⟩ := hc)
          (have H1 := Aside0.mk (show SB0 w (w1.alloc (.cells #[.int .i64 0, .int .i64 0, .int .i64 0, .int .i64 0, .int .i64 0, .int .i64 0, .int .i64 0, .slice none 0 0] 24)) from (H0.out.step hB).step ((Below.refl _ w1).alloc (Nat.le_refl _) _)))
          clear hB
          (have R1 := Aside0.mk (heap_alloc_new w1 (.cells #[.int .i64 0, .int .i64 0, .int .i64 0, .int .i64 0, .int .i64 0, .int .i64 0, .int .i64 0, .slice none 0 0] 24)))
          go_wp2_with (go_at_call 19; (obtain ⟨W1, hW1⟩ : ∃ X, w1.alloc (.cells #[.int .i64 0, .int .i64 0, .int .i64 0, .int .i64 0, .int .i64 0, .int .i64 0, .int .i64 0, .slice none 0 0] 24) = X := ⟨_, rfl⟩); rw [hW1] at H1 R1 ⊢; clear hW1; (with_reducible refine (rdecode_any B m d ys W1 (HY.out.below H1.out.bel)).mono ?_); rintro e w2 ⟨hB, hc⟩; (have hc := hc.resolve_left (fun k => k.1 hy.out)); (obtain ⟨_, rfl⟩ := hc); (have H2 := Aside0.mk (show SB0 w (w2.alloc (.cells #[(.int .i64 (b8 ys 4)), (.int .i64 (b8 ys 5)), (.int .i64 (b8 ys 6)), (.int .i64 (rfN ys 0)), (.int .i64 (rfN ys 1)), (.int .i64 (rfN ys 2)), (.int .i64 (rfN ys 3)), (.slice (rfA B d ys) (rfCu ys).length (rfC d ys))] 24)) from (H1.out.step hB).step ((Below.refl _ w2).alloc (Nat.le_refl _) _))); (have Q1 := Aside0.mk ((Below.heap_alloc w2 (.cells #[(.int .i64 (b8 ys 4)), (.int .i64 (b8 ys 5)), (.int .i64 (b8 ys 6)), (.int .i64 (rfN ys 0)), (.int .i64 (rfN ys 1)), (.int .i64 (rfN ys 2)), (.int .i64 (rfN ys 3)), (.slice (rfA B d ys) (rfCu ys).length (rfC d ys))] 24) w1.heap.size (Nat.lt_of_lt_of_le (Array.getElem?_eq_some_iff.1 R1.out).1 hB.size)).trans ((hB.block _ (Array.getElem?_eq_some_iff.1 R1.out).1).trans R1.out))); clear hB; (have R2 := Aside0.mk (heap_alloc_new w2 (.cells #[(.int .i64 (b8 ys 4)), (.int .i64 (b8 ys 5)), (.int .i64 (b8 ys 6)), (.int .i64 (rfN ys 0)), (.int .i64 (rfN ys 1)), (.int .i64 (rfN ys 2)), (.int .i64 (rfN ys 3)), (.slice (rfA B d ys) (rfCu ys).length (rfC d ys))] 24))); (obtain ⟨W2, hW2⟩ : ∃ X, w2.alloc (.cells #[(.int .i64 (b8 ys 4)), (.int .i64 (b8 ys 5)), (.int .i64 (b8 ys 6)), (.int .i64 (rfN ys 0)), (.int .i64 (rfN ys 1)), (.int .i64 (rfN ys 2)), (.int .i64 (rfN ys 3)), (.slice (rfA B d ys) (rfCu ys).length (rfC d ys))] 24) = X := ⟨_, rfl⟩); rw [hW2] at H2 Q1 R2; (obtain ⟨a0, a1, a2, a3, a4, a5, a6, a7⟩ := row8_cells Q1.out); (obtain ⟨e0, e1, e2, e3, e4, e5, e6, e7⟩ := row8_cells R2.out); (obtain ⟨y0, y1, y2, y3, y4, y5, y6, y7⟩ := row8_cells H2.out.res); (have yf := fun j => Go.Joins.unfrozen_of_block H2.out.res j))
          have otx := tx.out
          have opy := py.out
          have hL := rmload (row8_set (.int .i64 0) (.int .i64 0) (.int .i64 0) (.int .i64 0) (.int .i64 0) (.int .i64 0) (.int .i64 0) (.slice none 0 0) H2.out.res)
          have h1 := hx.out
          have h2 := hy.out
          have hch : chAt (refE xs) (rfN xs 0) (refE ys) (rfN ys 0) = -1 := by unfold chAt; (repeat' split) <;> omega
          refine bodyPost_ret (v := .tuple #[.agg #[.int .i64 0, .int .i64 0, .int .i64 0, .int .i64 0, .int .i64 0, .int .i64 0, .int .i64 0, .slice none 0 0], .int .i64 (-1), .int .i64 93]) (by simp [results, Try.results21, asAddr, hL]) rfl ⟨below_set8 _ _ _ _ _ _ _ _ H2.out.bel (Nat.le_refl _), .inl ⟨hch, by rw [show chE (refE xs) (refE ys) = 93 from by unfold chE; split <;> omega]⟩⟩
      · have zy : (refE ys == 0) = false := beq_eq_false_iff_ne.2 hy
        replace hy := Aside0.mk hy
        by_cases ty : refE ys = 93
        · have uy : (refE ys == 93) = true := beq_iff_eq.2 ty
          replace ty := Aside0.mk ty
          (with_reducible refine (rdecode_any A n c xs W0 (HX.out.below H0.out.bel)).mono ?_)
          rintro e w1 ⟨hB, hc⟩
          (have hc := hc.resolve_right (fun k => hx.out k.1))
          (obtain ⟨_, rfl⟩ := hc)
          (have H1 := Aside0.mk (show SB0 w (w1.alloc (.cells #[.int .i64 0, .int .i64 0, .int .i64 0, .int .i64 0, .int .i64 0, .int .i64 0, .int .i64 0, .slice none 0 0] 24)) from (H0.out.step hB).step ((Below.refl _ w1).alloc (Nat.le_refl _) _)))
          clear hB
          (have R1 := Aside0.mk (heap_alloc_new w1 (.cells #[.int .i64 0, .int .i64 0, .int .i64 0, .int .i64 0, .int .i64 0, .int .i64 0, .int .i64 0, .slice none 0 0] 24)))
          go_wp2_with (go_at_call 19; (obtain ⟨W1, hW1⟩ : ∃ X, w1.alloc (.cells #[.int .i64 0, .int .i64 0, .int .i64 0, .int .i64 0, .int .i64 0, .int .i64 0, .int .i64 0, .slice none 0 0] 24) = X := ⟨_, rfl⟩); rw [hW1] at H1 R1 ⊢; clear hW1; (with_reducible refine (rdecode_any B m d ys W1 (HY.out.below H1.out.bel)).mono ?_); rintro e w2 ⟨hB, hc⟩; (have hc := hc.resolve_right (fun k => hy.out k.1)); (obtain ⟨_, rfl⟩ := hc); (have H2 := Aside0.mk (show SB0 w (w2.alloc (.cells #[.int .i64 0, .int .i64 0, .int .i64 0, .int .i64 0, .int .i64 0, .int .i64 0, .int .i64 0, .slice none 0 0] 24)) from (H1.out.step hB).step ((Below.refl _ w2).alloc (Nat.le_refl _) _))); (have Q1 := Aside0.mk ((Below.heap_alloc w2 (.cells #[.int .i64 0, .int .i64 0, .int .i64 0, .int .i64 0, .int .i64 0, .int .i64 0, .int .i64 0, .slice none 0 0] 24) w1.heap.size (Nat.lt_of_lt_of_le (Array.getElem?_eq_some_iff.1 R1.out).1 hB.size)).trans ((hB.block _ (Array.getElem?_eq_some_iff.1 R1.out).1).trans R1.out))); clear hB; (have R2 := Aside0.mk (heap_alloc_new w2 (.cells #[.int .i64 0, .int .i64 0, .int .i64 0, .int .i64 0, .int .i64 0, .int .i64 0, .int .i64 0, .slice none 0 0] 24))); (obtain ⟨a0, a1, a2, a3, a4, a5, a6, a7⟩ := row8_cells Q1.out); (obtain ⟨e0, e1, e2, e3, e4, e5, e6, e7⟩ := row8_cells R2.out); (obtain ⟨y0, y1, y2, y3, y4, y5, y6, y7⟩ := row8_cells H2.out.res); (have yf := fun j => Go.Joins.unfrozen_of_block H2.out.res j))
          have otx := tx.out
          have oty := ty.out
          have hL := rmload (row8_set (.int .i64 0) (.int .i64 0) (.int .i64 0) (.int .i64 0) (.int .i64 0) (.int .i64 0) (.int .i64 0) (.slice none 0 0) H2.out.res)
          have h1 := hx.out
          have h2 := hy.out
          have hch : chAt (refE xs) (rfN xs 0) (refE ys) (rfN ys 0) = -1 := by unfold chAt; (repeat' split) <;> omega
          refine bodyPost_ret (v := .tuple #[.agg #[.int .i64 0, .int .i64 0, .int .i64 0, .int .i64 0, .int .i64 0, .int .i64 0, .int .i64 0, .slice none 0 0], .int .i64 (-1), .int .i64 93]) (by simp [results, Try.results21, asAddr, hL]) rfl ⟨below_set8 _ _ _ _ _ _ _ _ H2.out.bel (Nat.le_refl _), .inl ⟨hch, by rw [show chE (refE xs) (refE ys) = 93 from by unfold chE; split <;> omega]⟩⟩
        · have uy : (refE ys == 93) = false := beq_eq_false_iff_ne.2 ty
          replace ty := Aside0.mk ty
          (with_reducible refine (rdecode_any A n c xs W0 (HX.out.below H0.out.bel)).mono ?_)
          rintro e w1 ⟨hB, hc⟩
          (have hc := hc.resolve_right (fun k => hx.out k.1))
          (obtain ⟨_, rfl⟩ := hc)
          (have H1 := Aside0.mk (show SB0 w (w1.alloc (.cells #[.int .i64 0, .int .i64 0, .int .i64 0, .int .i64 0, .int .i64 0, .int .i64 0, .int .i64 0, .slice none 0 0] 24)) from (H0.out.step hB).step ((Below.refl _ w1).alloc (Nat.le_refl _) _)))
          clear hB
          (have R1 := Aside0.mk (heap_alloc_new w1 (.cells #[.int .i64 0, .int .i64 0, .int .i64 0, .int .i64 0, .int .i64 0, .int .i64 0, .int .i64 0, .slice none 0 0] 24)))
          go_wp2_with (go_at_call 19; (obtain ⟨W1, hW1⟩ : ∃ X, w1.alloc (.cells #[.int .i64 0, .int .i64 0, .int .i64 0, .int .i64 0, .int .i64 0, .int .i64 0, .int .i64 0, .slice none 0 0] 24) = X := ⟨_, rfl⟩); rw [hW1] at H1 R1 ⊢; clear hW1; (with_reducible refine (rdecode_any B m d ys W1 (HY.out.below H1.out.bel)).mono ?_); rintro e w2 ⟨hB, hc⟩; (have hc := hc.resolve_right (fun k => hy.out k.1)); (obtain ⟨_, rfl⟩ := hc); (have H2 := Aside0.mk (show SB0 w (w2.alloc (.cells #[.int .i64 0, .int .i64 0, .int .i64 0, .int .i64 0, .int .i64 0, .int .i64 0, .int .i64 0, .slice none 0 0] 24)) from (H1.out.step hB).step ((Below.refl _ w2).alloc (Nat.le_refl _) _))); (have Q1 := Aside0.mk ((Below.heap_alloc w2 (.cells #[.int .i64 0, .int .i64 0, .int .i64 0, .int .i64 0, .int .i64 0, .int .i64 0, .int .i64 0, .slice none 0 0] 24) w1.heap.size (Nat.lt_of_lt_of_le (Array.getElem?_eq_some_iff.1 R1.out).1 hB.size)).trans ((hB.block _ (Array.getElem?_eq_some_iff.1 R1.out).1).trans R1.out))); clear hB; (have R2 := Aside0.mk (heap_alloc_new w2 (.cells #[.int .i64 0, .int .i64 0, .int .i64 0, .int .i64 0, .int .i64 0, .int .i64 0, .int .i64 0, .slice none 0 0] 24))); (obtain ⟨a0, a1, a2, a3, a4, a5, a6, a7⟩ := row8_cells Q1.out); (obtain ⟨e0, e1, e2, e3, e4, e5, e6, e7⟩ := row8_cells R2.out); (obtain ⟨y0, y1, y2, y3, y4, y5, y6, y7⟩ := row8_cells H2.out.res); (have yf := fun j => Go.Joins.unfrozen_of_block H2.out.res j))
          have otx := tx.out
          have oty := ty.out
          have hL := rmload (row8_set (.int .i64 0) (.int .i64 0) (.int .i64 0) (.int .i64 0) (.int .i64 0) (.int .i64 0) (.int .i64 0) (.slice none 0 0) H2.out.res)
          have h1 := hx.out
          have h2 := hy.out
          have hch : chAt (refE xs) (rfN xs 0) (refE ys) (rfN ys 0) = -1 := by unfold chAt; (repeat' split) <;> omega
          refine bodyPost_ret (v := .tuple #[.agg #[.int .i64 0, .int .i64 0, .int .i64 0, .int .i64 0, .int .i64 0, .int .i64 0, .int .i64 0, .slice none 0 0], .int .i64 (-1), .int .i64 93]) (by simp [results, Try.results21, asAddr, hL]) rfl ⟨below_set8 _ _ _ _ _ _ _ _ H2.out.bel (Nat.le_refl _), .inl ⟨hch, by rw [show chE (refE xs) (refE ys) = 93 from by unfold chE; split <;> omega]⟩⟩
    · have ux : (refE xs == 93) = false := beq_eq_false_iff_ne.2 tx
      replace tx := Aside0.mk tx
      by_cases hy : refE ys = 0
      · have qy := ref_tx hy
        have iy : (rfN ys 0).tmod 2 = rfN ys 0 % 2 := Int.tmod_eq_emod_of_nonneg (Int.le_of_lt qy)
        replace hy := Aside0.mk hy
        by_cases py : rfN ys 0 % 2 = 1
        · have gy : (rfN ys 0 % 2 == 1) = true := beq_iff_eq.2 py
          replace py := Aside0.mk py
          (with_reducible refine (rdecode_any A n c xs W0 (HX.out.below H0.out.bel)).mono ?_)
          rintro e w1 ⟨hB, hc⟩
          (have hc := hc.resolve_right (fun k => hx.out k.1))
          (obtain ⟨_, rfl⟩ := hc)
          (have H1 := Aside0.mk (show SB0 w (w1.alloc (.cells #[.int .i64 0, .int .i64 0, .int .i64 0, .int .i64 0, .int .i64 0, .int .i64 0, .int .i64 0, .slice none 0 0] 24)) from (H0.out.step hB).step ((Below.refl _ w1).alloc (Nat.le_refl _) _)))
          clear hB
          (have R1 := Aside0.mk (heap_alloc_new w1 (.cells #[.int .i64 0, .int .i64 0, .int .i64 0, .int .i64 0, .int .i64 0, .int .i64 0, .int .i64 0, .slice none 0 0] 24)))
          go_wp2_with (go_at_call 19; (obtain ⟨W1, hW1⟩ : ∃ X, w1.alloc (.cells #[.int .i64 0, .int .i64 0, .int .i64 0, .int .i64 0, .int .i64 0, .int .i64 0, .int .i64 0, .slice none 0 0] 24) = X := ⟨_, rfl⟩); rw [hW1] at H1 R1 ⊢; clear hW1; (with_reducible refine (rdecode_any B m d ys W1 (HY.out.below H1.out.bel)).mono ?_); rintro e w2 ⟨hB, hc⟩; (have hc := hc.resolve_left (fun k => k.1 hy.out)); (obtain ⟨_, rfl⟩ := hc); (have H2 := Aside0.mk (show SB0 w (w2.alloc (.cells #[(.int .i64 (b8 ys 4)), (.int .i64 (b8 ys 5)), (.int .i64 (b8 ys 6)), (.int .i64 (rfN ys 0)), (.int .i64 (rfN ys 1)), (.int .i64 (rfN ys 2)), (.int .i64 (rfN ys 3)), (.slice (rfA B d ys) (rfCu ys).length (rfC d ys))] 24)) from (H1.out.step hB).step ((Below.refl _ w2).alloc (Nat.le_refl _) _))); (have Q1 := Aside0.mk ((Below.heap_alloc w2 (.cells #[(.int .i64 (b8 ys 4)), (.int .i64 (b8 ys 5)), (.int .i64 (b8 ys 6)), (.int .i64 (rfN ys 0)), (.int .i64 (rfN ys 1)), (.int .i64 (rfN ys 2)), (.int .i64 (rfN ys 3)), (.slice (rfA B d ys) (rfCu ys).length (rfC d ys))] 24) w1.heap.size (Nat.lt_of_lt_of_le (Array.getElem?_eq_some_iff.1 R1.out).1 hB.size)).trans ((hB.block _ (Array.getElem?_eq_some_iff.1 R1.out).1).trans R1.out))); clear hB; (have R2 := Aside0.mk (heap_alloc_new w2 (.cells #[(.int .i64 (b8 ys 4)), (.int .i64 (b8 ys 5)), (.int .i64 (b8 ys 6)), (.int .i64 (rfN ys 0)), (.int .i64 (rfN ys 1)), (.int .i64 (rfN ys 2)), (.int .i64 (rfN ys 3)), (.slice (rfA B d ys) (rfCu ys).length (rfC d ys))] 24))); (obtain ⟨W2, hW2⟩ : ∃ X, w2.alloc (.cells #[(.int .i64 (b8 ys 4)), (.int .i64 (b8 ys 5)), (.int .i64 (b8 ys 6)), (.int .i64 (rfN ys 0)), (.int .i64 (rfN ys 1)), (.int .i64 (rfN ys 2)), (.int .i64 (rfN ys 3)), (.slice (rfA B d ys) (rfCu ys).length (rfC d ys))] 24) = X := ⟨_, rfl⟩); rw [hW2] at H2 Q1 R2; (obtain ⟨a0, a1, a2, a3, a4, a5, a6, a7⟩ := row8_cells Q1.out); (obtain ⟨e0, e1, e2, e3, e4, e5, e6, e7⟩ := row8_cells R2.out); (obtain ⟨y0, y1, y2, y3, y4, y5, y6, y7⟩ := row8_cells H2.out.res); (have yf := fun j => Go.Joins.unfrozen_of_block H2.out.res j))
          have otx := tx.out
          have opy := py.out
          have hL := rmload (row8_set (.int .i64 (b8 ys 4)) (.int .i64 (b8 ys 5)) (.int .i64 (b8 ys 6)) (.int .i64 (rfN ys 0)) (.int .i64 (rfN ys 1)) (.int .i64 (rfN ys 2)) (.int .i64 (rfN ys 3)) (.slice (rfA B d ys) (rfCu ys).length (rfC d ys)) H2.out.res)
          have h1 := hx.out
          have h2 := hy.out
          have hch : chAt (refE xs) (rfN xs 0) (refE ys) (rfN ys 0) = 1 := by unfold chAt; (repeat' split) <;> omega
          refine bodyPost_ret (v := .tuple #[.agg #[(.int .i64 (b8 ys 4)), (.int .i64 (b8 ys 5)), (.int .i64 (b8 ys 6)), (.int .i64 (rfN ys 0)), (.int .i64 (rfN ys 1)), (.int .i64 (rfN ys 2)), (.int .i64 (rfN ys 3)), (.slice (rfA B d ys) (rfCu ys).length (rfC d ys))], .int .i64 1, .int .i64 0]) (by simp [results, Try.results21, asAddr, hL]) rfl ⟨below_set8 _ _ _ _ _ _ _ _ H2.out.bel (Nat.le_refl _), .inr (.inr ⟨hch, h2, rfl⟩)⟩
        · have gy : (rfN ys 0 % 2 == 1) = false := beq_eq_false_iff_ne.2 py
          replace py := Aside0.mk py
          (with_reducible refine (rdecode_any A n c xs W0 (HX.out.below H0.out.bel)).mono ?_)
          rintro e w1 ⟨hB, hc⟩
          (have hc := hc.resolve_right (fun k => hx.out k.1))
          (obtain ⟨_, rfl⟩ := hc)
          (have H1 := Aside0.mk (show SB0 w (w1.alloc (.cells #[.int .i64 0, .int .i64 0, .int .i64 0, .int .i64 0, .int .i64 0, .int .i64 0, .int .i64 0, .slice none 0 0] 24)) from (H0.out.step hB).step ((Below.refl _ w1).alloc (Nat.le_refl _) _)))
          clear hB
          (have R1 := Aside0.mk (heap_alloc_new w1 (.cells #[.int .i64 0, .int .i64 0, .int .i64 0, .int .i64 0, .int .i64 0, .int .i64 0, .int .i64 0, .slice none 0 0] 24)))
          go_wp2_with (go_at_call 19; (obtain ⟨W1, hW1⟩ : ∃ X, w1.alloc (.cells #[.int .i64 0, .int .i64 0, .int .i64 0, .int .i64 0, .int .i64 0, .int .i64 0, .int .i64 0, .slice none 0 0] 24) = X := ⟨_, rfl⟩); rw [hW1] at H1 R1 ⊢; clear hW1; (with_reducible refine (rdecode_any B m d ys W1 (HY.out.below H1.out.bel)).mono ?_); rintro e w2 ⟨hB, hc⟩; (have hc := hc.resolve_left (fun k => k.1 hy.out)); (obtain ⟨_, rfl⟩ := hc); (have H2 := Aside0.mk (show SB0 w (w2.alloc (.cells #[(.int .i64 (b8 ys 4)), (.int .i64 (b8 ys 5)), (.int .i64 (b8 ys 6)), (.int .i64 (rfN ys 0)), (.int .i64 (rfN ys 1)), (.int .i64 (rfN ys 2)), (.int .i64 (rfN ys 3)), (.slice (rfA B d ys) (rfCu ys).length (rfC d ys))] 24)) from (H1.out.step hB).step ((Below.refl _ w2).alloc (Nat.le_refl _) _))); (have Q1 := Aside0.mk ((Below.heap_alloc w2 (.cells #[(.int .i64 (b8 ys 4)), (.int .i64 (b8 ys 5)), (.int .i64 (b8 ys 6)), (.int .i64 (rfN ys 0)), (.int .i64 (rfN ys 1)), (.int .i64 (rfN ys 2)), (.int .i64 (rfN ys 3)), (.slice (rfA B d ys) (rfCu ys).length (rfC d ys))] 24) w1.heap.size (Nat.lt_of_lt_of_le (Array.getElem?_eq_some_iff.1 R1.out).1 hB.size)).trans ((hB.block _ (Array.getElem?_eq_some_iff.1 R1.out).1).trans R1.out))); clear hB; (have R2 := Aside0.mk (heap_alloc_new w2 (.cells #[(.int .i64 (b8 ys 4)), (.int .i64 (b8 ys 5)), (.int .i64 (b8 ys 6)), (.int .i64 (rfN ys 0)), (.int .i64 (rfN ys 1)), (.int .i64 (rfN ys 2)), (.int .i64 (rfN ys 3)), (.slice (rfA B d ys) (rfCu ys).length (rfC d ys))] 24))); (obtain ⟨W2, hW2⟩ : ∃ X, w2.alloc (.cells #[(.int .i64 (b8 ys 4)), (.int .i64 (b8 ys 5)), (.int .i64 (b8 ys 6)), (.int .i64 (rfN ys 0)), (.int .i64 (rfN ys 1)), (.int .i64 (rfN ys 2)), (.int .i64 (rfN ys 3)), (.slice (rfA B d ys) (rfCu ys).length (rfC d ys))] 24) = X := ⟨_, rfl⟩); rw [hW2] at H2 Q1 R2; (obtain ⟨a0, a1, a2, a3, a4, a5, a6, a7⟩ := row8_cells Q1.out); (obtain ⟨e0, e1, e2, e3, e4, e5, e6, e7⟩ := row8_cells R2.out); (obtain ⟨y0, y1, y2, y3, y4, y5, y6, y7⟩ := row8_cells H2.out.res); (have yf := fun j => Go.Joins.unfrozen_of_block H2.out.res j))
          have otx := tx.out
          have opy := py.out
          have hL := rmload (row8_set (.int .i64 0) (.int .i64 0) (.int .i64 0) (.int .i64 0) (.int .i64 0) (.int .i64 0) (.int .i64 0) (.slice none 0 0) H2.out.res)
          have h1 := hx.out
          have h2 := hy.out
          have hch : chAt (refE xs) (rfN xs 0) (refE ys) (rfN ys 0) = -1 := by unfold chAt; (repeat' split) <;> omega
          refine bodyPost_ret (v := .tuple #[.agg #[.int .i64 0, .int .i64 0, .int .i64 0, .int .i64 0, .int .i64 0, .int .i64 0, .int .i64 0, .slice none 0 0], .int .i64 (-1), .int .i64 92]) (by simp [results, Try.results21, asAddr, hL]) rfl ⟨below_set8 _ _ _ _ _ _ _ _ H2.out.bel (Nat.le_refl _), .inl ⟨hch, by rw [show chE (refE xs) (refE ys) = 92 from by unfold chE; split <;> omega]⟩⟩
      · have zy : (refE ys == 0) = false := beq_eq_false_iff_ne.2 hy
        replace hy := Aside0.mk hy
        by_cases ty : refE ys = 93
        · have uy : (refE ys == 93) = true := beq_iff_eq.2 ty
          replace ty := Aside0.mk ty
          (with_reducible refine (rdecode_any A n c xs W0 (HX.out.below H0.out.bel)).mono ?_)
          rintro e w1 ⟨hB, hc⟩
          (have hc := hc.resolve_right (fun k => hx.out k.1))
          (obtain ⟨_, rfl⟩ := hc)
          (have H1 := Aside0.mk (show SB0 w (w1.alloc (.cells #[.int .i64 0, .int .i64 0, .int .i64 0, .int .i64 0, .int .i64 0, .int .i64 0, .int .i64 0, .slice none 0 0] 24)) from (H0.out.step hB).step ((Below.refl _ w1).alloc (Nat.le_refl _) _)))
          clear hB
          (have R1 := Aside0.mk (heap_alloc_new w1 (.cells #[.int .i64 0, .int .i64 0, .int .i64 0, .int .i64 0, .int .i64 0, .int .i64 0, .int .i64 0, .slice none 0 0] 24)))
          go_wp2_with (go_at_call 19; (obtain ⟨W1, hW1⟩ : ∃ X, w1.alloc (.cells #[.int .i64 0, .int .i64 0, .int .i64 0, .int .i64 0, .int .i64 0, .int .i64 0, .int .i64 0, .slice none 0 0] 24) = X := ⟨_, rfl⟩); rw [hW1] at H1 R1 ⊢; clear hW1; (with_reducible refine (rdecode_any B m d ys W1 (HY.out.below H1.out.bel)).mono ?_); rintro e w2 ⟨hB, hc⟩; (have hc := hc.resolve_right (fun k => hy.out k.1)); (obtain ⟨_, rfl⟩ := hc); (have H2 := Aside0.mk (show SB0 w (w2.alloc (.cells #[.int .i64 0, .int .i64 0, .int .i64 0, .int .i64 0, .int .i64 0, .int .i64 0, .int .i64 0, .slice none 0 0] 24)) from (H1.out.step hB).step ((Below.refl _ w2).alloc (Nat.le_refl _) _))); (have Q1 := Aside0.mk ((Below.heap_alloc w2 (.cells #[.int .i64 0, .int .i64 0, .int .i64 0, .int .i64 0, .int .i64 0, .int .i64 0, .int .i64 0, .slice none 0 0] 24) w1.heap.size (Nat.lt_of_lt_of_le (Array.getElem?_eq_some_iff.1 R1.out).1 hB.size)).trans ((hB.block _ (Array.getElem?_eq_some_iff.1 R1.out).1).trans R1.out))); clear hB; (have R2 := Aside0.mk (heap_alloc_new w2 (.cells #[.int .i64 0, .int .i64 0, .int .i64 0, .int .i64 0, .int .i64 0, .int .i64 0, .int .i64 0, .slice none 0 0] 24))); (obtain ⟨a0, a1, a2, a3, a4, a5, a6, a7⟩ := row8_cells Q1.out); (obtain ⟨e0, e1, e2, e3, e4, e5, e6, e7⟩ := row8_cells R2.out); (obtain ⟨y0, y1, y2, y3, y4, y5, y6, y7⟩ := row8_cells H2.out.res); (have yf := fun j => Go.Joins.unfrozen_of_block H2.out.res j))
          have otx := tx.out
          have oty := ty.out
          have hL := rmload (row8_set (.int .i64 0) (.int .i64 0) (.int .i64 0) (.int .i64 0) (.int .i64 0) (.int .i64 0) (.int .i64 0) (.slice none 0 0) H2.out.res)
          have h1 := hx.out
          have h2 := hy.out
          have hch : chAt (refE xs) (rfN xs 0) (refE ys) (rfN ys 0) = -1 := by unfold chAt; (repeat' split) <;> omega
          refine bodyPost_ret (v := .tuple #[.agg #[.int .i64 0, .int .i64 0, .int .i64 0, .int .i64 0, .int .i64 0, .int .i64 0, .int .i64 0, .slice none 0 0], .int .i64 (-1), .int .i64 93]) (by simp [results, Try.results21, asAddr, hL]) rfl ⟨below_set8 _ _ _ _ _ _ _ _ H2.out.bel (Nat.le_refl _), .inl ⟨hch, by rw [show chE (refE xs) (refE ys) = 93 from by unfold chE; split <;> omega]⟩⟩
        · have uy : (refE ys == 93) = false := beq_eq_false_iff_ne.2 ty
          replace ty := Aside0.mk ty
          (with_reducible refine (rdecode_any A n c xs W0 (HX.out.below H0.out.bel)).mono ?_)
          rintro e w1 ⟨hB, hc⟩
          (have hc := hc.resolve_right (fun k => hx.out k.1))
          (obtain ⟨_, rfl⟩ := hc)
          (have H1 := Aside0.mk (show SB0 w (w1.alloc (.cells #[.int .i64 0, .int .i64 0, .int .i64 0, .int .i64 0, .int .i64 0, .int .i64 0, .int .i64 0, .slice none 0 0] 24)) from (H0.out.step hB).step ((Below.refl _ w1).alloc (Nat.le_refl _) _)))
          clear hB
          (have R1 := Aside0.mk (heap_alloc_new w1 (.cells #[.int .i64 0, .int .i64 0, .int .i64 0, .int .i64 0, .int .i64 0, .int .i64 0, .int .i64 0, .slice none 0 0] 24)))
          go_wp2_with (go_at_call 19; (obtain ⟨W1, hW1⟩ : ∃ X, w1.alloc (.cells #[.int .i64 0, .int .i64 0, .int .i64 0, .int .i64 0, .int .i64 0, .int .i64 0, .int .i64 0, .slice none 0 0] 24) = X := ⟨_, rfl⟩); rw [hW1] at H1 R1 ⊢; clear hW1; (with_reducible refine (rdecode_any B m d ys W1 (HY.out.below H1.out.bel)).mono ?_); rintro e w2 ⟨hB, hc⟩; (have hc := hc.resolve_right (fun k => hy.out k.1)); (obtain ⟨_, rfl⟩ := hc); (have H2 := Aside0.mk (show SB0 w (w2.alloc (.cells #[.int .i64 0, .int .i64 0, .int .i64 0, .int .i64 0, .int .i64 0, .int .i64 0, .int .i64 0, .slice none 0 0] 24)) from (H1.out.step hB).step ((Below.refl _ w2).alloc (Nat.le_refl _) _))); (have Q1 := Aside0.mk ((Below.heap_alloc w2 (.cells #[.int .i64 0, .int .i64 0, .int .i64 0, .int .i64 0, .int .i64 0, .int .i64 0, .int .i64 0, .slice none 0 0] 24) w1.heap.size (Nat.lt_of_lt_of_le (Array.getElem?_eq_some_iff.1 R1.out).1 hB.size)).trans ((hB.block _ (Array.getElem?_eq_some_iff.1 R1.out).1).trans R1.out))); clear hB; (have R2 := Aside0.mk (heap_alloc_new w2 (.cells #[.int .i64 0, .int .i64 0, .int .i64 0, .int .i64 0, .int .i64 0, .int .i64 0, .int .i64 0, .slice none 0 0] 24))); (obtain ⟨a0, a1, a2, a3, a4, a5, a6, a7⟩ := row8_cells Q1.out); (obtain ⟨e0, e1, e2, e3, e4, e5, e6, e7⟩ := row8_cells R2.out); (obtain ⟨y0, y1, y2, y3, y4, y5, y6, y7⟩ := row8_cells H2.out.res); (have yf := fun j => Go.Joins.unfrozen_of_block H2.out.res j))
          have otx := tx.out
          have oty := ty.out
          have hL := rmload (row8_set (.int .i64 0) (.int .i64 0) (.int .i64 0) (.int .i64 0) (.int .i64 0) (.int .i64 0) (.int .i64 0) (.slice none 0 0) H2.out.res)
          have h1 := hx.out
          have h2 := hy.out
          have hch : chAt (refE xs) (rfN xs 0) (refE ys) (rfN ys 0) = -1 := by unfold chAt; (repeat' split) <;> omega
          refine bodyPost_ret (v := .tuple #[.agg #[.int .i64 0, .int .i64 0, .int .i64 0, .int .i64 0, .int .i64 0, .int .i64 0, .int .i64 0, .slice none 0 0], .int .i64 (-1), .int .i64 92]) (by simp [results, Try.results21, asAddr, hL]) rfl ⟨below_set8 _ _ _ _ _ _ _ _ H2.out.bel (Nat.le_refl _), .inl ⟨hch, by rw [show chE (refE xs) (refE ys) = 92 from by unfold chE; split <;> omega]⟩⟩

end Go.Proofs.Ytenibcbodjkglaa
