/- The walk of MetaChooses. -/
import Derived.Test.YtenibcbodjkglaaL09a
set_option linter.unusedVariables false
set_option linter.unusedSimpArgs false
namespace Go.Proofs.Ytenibcbodjkglaa
open Go.RowKit

theorem chAt_congr {d1 t1 t1' d2 t2 t2' : Int} (h1 : d1 = 0 → t1 = t1') (h2 : d2 = 0 → t2 = t2') : chAt d1 t1 d2 t2 = chAt d1 t1' d2 t2' := by
  unfold chAt
  (repeat' split) <;> omega
theorem ch_eq (xs ys : List UInt8) : chAt (decE xs) (rdTx xs) (decE ys) (rdTx ys) = chAt (refE xs) (rfN xs 0) (refE ys) (rfN ys 0) := by
  rw [dec_ref xs, dec_ref ys]
  exact chAt_congr (fun h => (rd_rf h).2.2.2.1) (fun h => (rd_rf h).2.2.2.1)
theorem ch_cases (a b c d : Int) : chAt a b c d = -1 ∨ chAt a b c d = 0 ∨ chAt a b c d = 1 := by
  unfold chAt
  split
  · exact .inr (.inr rfl)
  · split
    · exact .inr (.inl rfl)
    · exact .inl rfl
theorem chE_eq (xs ys : List UInt8) : chE (decE xs) (decE ys) = chE (refE xs) (refE ys) := by rw [dec_ref, dec_ref]
theorem msame_refl (ge ph tg tx rt pg li : Int) (xs : List UInt8) : msameB ge ph tg tx rt pg li xs ge ph tg tx rt pg li xs = true := decide_eq_true ⟨rfl, rfl, rfl, rfl, rfl, rfl, rfl, rfl⟩
theorem mch_none (A : Option Addr) (n c : Nat) (xs : List UInt8) (B : Option Addr) (m d : Nat) (ys : List UInt8) (w : World) (hx : Bs w A n c xs) (hy : Bs w B m d ys) {E : Int} (hE : chE (refE xs) (refE ys) = E) (h : chAt (refE xs) (rfN xs 0) (refE ys) (rfN ys 0) = -1) :
    Calls Try.prog 20 #[.slice A n c, .slice B m d] w fun e w' => Below w.heap.size w w' ∧ e = .returned (.tuple #[.agg #[.int .i64 0, .int .i64 0, .int .i64 0, .int .i64 0, .int .i64 0, .int .i64 0, .int .i64 0, .slice none 0 0], .int .i64 (-1), .int .i64 E]) := by
  refine (mchoose_any A n c xs B m d ys w hx hy).mono ?_
  rintro e w' ⟨hB, hc⟩
  rw [ch_eq, chE_eq, hE, h] at hc
  rcases hc with ⟨_, rfl⟩ | ⟨k, _⟩ | ⟨k, _⟩
  · exact ⟨hB, rfl⟩
  · omega
  · omega
theorem rch_none (A : Option Addr) (n c : Nat) (xs : List UInt8) (B : Option Addr) (m d : Nat) (ys : List UInt8) (w : World) (hx : Bs w A n c xs) (hy : Bs w B m d ys) {E : Int} (hE : chE (refE xs) (refE ys) = E) (h : chAt (refE xs) (rfN xs 0) (refE ys) (rfN ys 0) = -1) :
    Calls Try.prog 21 #[.slice A n c, .slice B m d] w fun e w' => Below w.heap.size w w' ∧ e = .returned (.tuple #[.agg #[.int .i64 0, .int .i64 0, .int .i64 0, .int .i64 0, .int .i64 0, .int .i64 0, .int .i64 0, .slice none 0 0], .int .i64 (-1), .int .i64 E]) := by
  refine (rchoose_any A n c xs B m d ys w hx hy).mono ?_
  rintro e w' ⟨hB, hc⟩
  rw [hE, h] at hc
  rcases hc with ⟨_, rfl⟩ | ⟨k, _⟩ | ⟨k, _⟩
  · exact ⟨hB, rfl⟩
  · omega
  · omega
theorem mch_left (A : Option Addr) (n c : Nat) (xs : List UInt8) (B : Option Addr) (m d : Nat) (ys : List UInt8) (w : World) (hx : Bs w A n c xs) (hy : Bs w B m d ys) (h : chAt (refE xs) (rfN xs 0) (refE ys) (rfN ys 0) = 0) (h0 : refE xs = 0) :
    Calls Try.prog 20 #[.slice A n c, .slice B m d] w fun e w' => Below w.heap.size w w' ∧ ∃ A1 c1, e = .returned (.tuple #[.agg #[.int .i64 (b8 xs 4), .int .i64 (b8 xs 5), .int .i64 (b8 xs 6), .int .i64 (rfN xs 0), .int .i64 (rfN xs 1), .int .i64 (rfN xs 2), .int .i64 (rfN xs 3), .slice A1 (rfCu xs).length c1], .int .i64 0, .int .i64 0]) ∧ Bs w' A1 (rfCu xs).length c1 (rfCu xs) := by
  refine (mchoose_any A n c xs B m d ys w hx hy).mono ?_
  rintro e w' ⟨hB, hc⟩
  rw [ch_eq, h] at hc
  obtain ⟨f1, f2, f3, f4, f5, f6, f7, f8⟩ := rd_rf h0
  rcases hc with ⟨k, _⟩ | ⟨k, A1, c1, rfl, hb⟩ | ⟨k, A1, c1, rfl, hb⟩
  · omega
  · rw [f8] at hb
    rw [f1, f2, f3, f4, f5, f6, f7, f8]
    exact ⟨hB, A1, c1, rfl, hb⟩
  · omega
theorem rch_left (A : Option Addr) (n c : Nat) (xs : List UInt8) (B : Option Addr) (m d : Nat) (ys : List UInt8) (w : World) (hx : Bs w A n c xs) (hy : Bs w B m d ys) (h : chAt (refE xs) (rfN xs 0) (refE ys) (rfN ys 0) = 0) :
    Calls Try.prog 21 #[.slice A n c, .slice B m d] w fun e w' => Below w.heap.size w w' ∧ refE xs = 0 ∧ e = .returned (.tuple #[.agg #[.int .i64 (b8 xs 4), .int .i64 (b8 xs 5), .int .i64 (b8 xs 6), .int .i64 (rfN xs 0), .int .i64 (rfN xs 1), .int .i64 (rfN xs 2), .int .i64 (rfN xs 3), .slice (rfA A c xs) (rfCu xs).length (rfC c xs)], .int .i64 0, .int .i64 0]) := by
  refine (rchoose_any A n c xs B m d ys w hx hy).mono ?_
  rintro e w' ⟨hB, hc⟩
  rw [h] at hc
  rcases hc with ⟨k, _⟩ | ⟨k, h0, rfl⟩ | ⟨k, h0, rfl⟩
  · omega
  · exact ⟨hB, h0, rfl⟩
  · omega
theorem mch_right (A : Option Addr) (n c : Nat) (xs : List UInt8) (B : Option Addr) (m d : Nat) (ys : List UInt8) (w : World) (hx : Bs w A n c xs) (hy : Bs w B m d ys) (h : chAt (refE xs) (rfN xs 0) (refE ys) (rfN ys 0) = 1) (h0 : refE ys = 0) :
    Calls Try.prog 20 #[.slice A n c, .slice B m d] w fun e w' => Below w.heap.size w w' ∧ ∃ A1 c1, e = .returned (.tuple #[.agg #[.int .i64 (b8 ys 4), .int .i64 (b8 ys 5), .int .i64 (b8 ys 6), .int .i64 (rfN ys 0), .int .i64 (rfN ys 1), .int .i64 (rfN ys 2), .int .i64 (rfN ys 3), .slice A1 (rfCu ys).length c1], .int .i64 1, .int .i64 0]) ∧ Bs w' A1 (rfCu ys).length c1 (rfCu ys) := by
  refine (mchoose_any A n c xs B m d ys w hx hy).mono ?_
  rintro e w' ⟨hB, hc⟩
  rw [ch_eq, h] at hc
  obtain ⟨f1, f2, f3, f4, f5, f6, f7, f8⟩ := rd_rf h0
  rcases hc with ⟨k, _⟩ | ⟨k, A1, c1, rfl, hb⟩ | ⟨k, A1, c1, rfl, hb⟩
  · omega
  · omega
  · rw [f8] at hb
    rw [f1, f2, f3, f4, f5, f6, f7, f8]
    exact ⟨hB, A1, c1, rfl, hb⟩
theorem rch_right (A : Option Addr) (n c : Nat) (xs : List UInt8) (B : Option Addr) (m d : Nat) (ys : List UInt8) (w : World) (hx : Bs w A n c xs) (hy : Bs w B m d ys) (h : chAt (refE xs) (rfN xs 0) (refE ys) (rfN ys 0) = 1) :
    Calls Try.prog 21 #[.slice A n c, .slice B m d] w fun e w' => Below w.heap.size w w' ∧ refE ys = 0 ∧ e = .returned (.tuple #[.agg #[.int .i64 (b8 ys 4), .int .i64 (b8 ys 5), .int .i64 (b8 ys 6), .int .i64 (rfN ys 0), .int .i64 (rfN ys 1), .int .i64 (rfN ys 2), .int .i64 (rfN ys 3), .slice (rfA B d ys) (rfCu ys).length (rfC d ys)], .int .i64 1, .int .i64 0]) := by
  refine (rchoose_any A n c xs B m d ys w hx hy).mono ?_
  rintro e w' ⟨hB, hc⟩
  rw [h] at hc
  rcases hc with ⟨k, _⟩ | ⟨k, h0, rfl⟩ | ⟨k, h0, rfl⟩
  · omega
  · omega
  · exact ⟨hB, h0, rfl⟩
theorem ch_left {xs ys : List UInt8} (h : chAt (refE xs) (rfN xs 0) (refE ys) (rfN ys 0) = 0) : refE xs = 0 := by
  unfold chAt at h
  split at h
  · omega
  · split at h
    · rename_i k
      exact k.1
    · omega
theorem ch_right {xs ys : List UInt8} (h : chAt (refE xs) (rfN xs 0) (refE ys) (rfN ys 0) = 1) : refE ys = 0 := by
  unfold chAt at h
  split at h
  · rename_i k
    exact k.1
  · split at h <;> omega

/-- Two metas, one of either kind, in their boxes. -/
structure T2 (w : World) (gm : Nat) (u : Array Value) (gn : Nat) (v : Array Value) (W : World) : Prop where
  bel : Below w.heap.size w W
  ra : W.heap[gm]? = some (.cells u 26)
  rb : W.heap[gn]? = some (.cells v 24)
theorem T2.step {w W W1 : World} {gm gn : Nat} {u v : Array Value} (h : T2 w gm u gn v W) (hB : Below W.heap.size W W1) : T2 w gm u gn v W1 :=
  ⟨below_then h.bel h.bel.size hB, (hB.block _ (Array.getElem?_eq_some_iff.1 h.ra).1).trans h.ra, (hB.block _ (Array.getElem?_eq_some_iff.1 h.rb).1).trans h.rb⟩
set_option maxHeartbeats 4000000 in
set_option maxRecDepth 100000 in
theorem metaChooses_walk (A : Option Addr) (n c : Nat) (xs : List UInt8) (B : Option Addr) (m d : Nat) (ys : List UInt8) (w : World) (hx : Bs w A n c xs) (hy : Bs w B m d ys) :
    Calls Try.prog 5 #[.slice A n c, .slice B m d] w fun e w' => e = .returned (.bool true) ∧ Below w.heap.size w w' := by
  have HX := Aside0.mk hx
  have HY := Aside0.mk hy
  have hl1 := hx.lim
  have hl2 := hy.lim
  clear hx hy
  go_enter Try.func5, Try.ntmps5
  by_cases g1 : 1000 < n
  · have d1 : decide (1000 < (n : Int)) = true := decide_eq_true (by omega)
    go_wp2_with (go_at_call 9; (with_reducible refine (alive09_any _).mono ?_); rintro e wa ⟨rfl, hB⟩)
    go_ret
    exact ⟨rfl, hB⟩
  · have d1 : decide (1000 < (n : Int)) = false := decide_eq_false (by omega)
    by_cases g2 : 1000 < m
    · have d2 : decide (1000 < (m : Int)) = true := decide_eq_true (by omega)
      go_wp2_with (go_at_call 9; (with_reducible refine (alive09_any _).mono ?_); rintro e wa ⟨rfl, hB⟩)
      go_ret
      exact ⟨rfl, hB⟩
    · have d2 : decide (1000 < (m : Int)) = false := decide_eq_false (by omega)
      clear g1 g2
      go_wp2_with fail
      clear d1 d2
      rcases ch_cases (refE xs) (rfN xs 0) (refE ys) (rfN ys 0) with h | h | h
      · obtain ⟨E, hE⟩ : ∃ E, chE (refE xs) (refE ys) = E := ⟨_, rfl⟩
        refine (mch_none A n c xs B m d ys w HX.out HY.out hE h).mono ?_
        rintro e w1 ⟨hB1, rfl⟩
        go_wp2_with fail
        have R1 := Aside0.mk (heap_alloc_new w1 (.cells #[.int .i64 0, .int .i64 0, .int .i64 0, .int .i64 0, .int .i64 0, .int .i64 0, .int .i64 0, .slice none 0 0] 26))
        have HB1 := Aside0.mk (below_then hB1 hB1.size ((Below.refl _ w1).alloc (Nat.le_refl _) (.cells #[.int .i64 0, .int .i64 0, .int .i64 0, .int .i64 0, .int .i64 0, .int .i64 0, .int .i64 0, .slice none 0 0] 26)))
        obtain ⟨W1, hW1⟩ : ∃ X, w1.alloc (.cells #[.int .i64 0, .int .i64 0, .int .i64 0, .int .i64 0, .int .i64 0, .int .i64 0, .int .i64 0, .slice none 0 0] 26) = X := ⟨_, rfl⟩
        obtain ⟨gm, hgm⟩ : ∃ k, w1.heap.size = k := ⟨_, rfl⟩
        rw [hW1, hgm] at R1
        rw [hW1] at HB1
        rw [hW1, hgm]
        clear hW1 hgm hB1
        refine (rch_none A n c xs B m d ys W1 (HX.out.below HB1.out) (HY.out.below HB1.out) hE h).mono ?_
        rintro e w2 ⟨hB2, rfl⟩
        have HT := Aside0.mk (show T2 w gm #[.int .i64 0, .int .i64 0, .int .i64 0, .int .i64 0, .int .i64 0, .int .i64 0, .int .i64 0, .slice none 0 0] w2.heap.size #[.int .i64 0, .int .i64 0, .int .i64 0, .int .i64 0, .int .i64 0, .int .i64 0, .int .i64 0, .slice none 0 0] (w2.alloc (.cells #[.int .i64 0, .int .i64 0, .int .i64 0, .int .i64 0, .int .i64 0, .int .i64 0, .int .i64 0, .slice none 0 0] 24)) from ⟨below_then (below_then HB1.out HB1.out.size hB2) (below_then HB1.out HB1.out.size hB2).size ((Below.refl _ w2).alloc (Nat.le_refl _) _), (Below.heap_alloc _ _ _ (Nat.lt_of_lt_of_le (Array.getElem?_eq_some_iff.1 R1.out).1 hB2.size)).trans ((hB2.block _ (Array.getElem?_eq_some_iff.1 R1.out).1).trans R1.out), heap_alloc_new w2 _⟩)
        clear hB2 R1 HB1 h hE
        go_upto_region 5 with fail
        obtain ⟨W2, hW2⟩ : ∃ X, w2.alloc (.cells #[.int .i64 0, .int .i64 0, .int .i64 0, .int .i64 0, .int .i64 0, .int .i64 0, .int .i64 0, .slice none 0 0] 24) = X := ⟨_, rfl⟩
        obtain ⟨gn, hgn⟩ : ∃ k, w2.heap.size = k := ⟨_, rfl⟩
        rw [hW2, hgn] at HT
        rw [hW2, hgn]
        clear hW2 hgn
        obtain ⟨x0, x1, x2, x3, x4, x5, x6, x7⟩ := row8_cells HT.out.ra
        obtain ⟨y0, y1, y2, y3, y4, y5, y6, y7⟩ := row8_cells HT.out.rb
        have ms := msame_refl 0 0 0 0 0 0 0 []
        go_wp2_with (first
          | (go_at_call 9; (with_reducible refine (alive09_any _).mono ?_); rintro e wa ⟨rfl, hB⟩; (replace HT := Aside0.mk (HT.out.step hB)); clear hB; (obtain ⟨x0, x1, x2, x3, x4, x5, x6, x7⟩ := row8_cells HT.out.ra); (obtain ⟨y0, y1, y2, y3, y4, y5, y6, y7⟩ := row8_cells HT.out.rb))
          | (go_at_call 18; (with_reducible refine (rmsame_any 0 0 0 0 0 0 0 none 0 0 [] 0 0 0 0 0 0 0 none 0 0 [] _ (Bs.nil _ _ _ (by omega)) (Bs.nil _ _ _ (by omega))).mono ?_); rintro e wa ⟨rfl, hB⟩; rw [ms]; (replace HT := Aside0.mk (HT.out.step hB)); clear hB))
        go_ret
        exact ⟨rfl, HT.out.bel⟩
      · have h0 := Aside0.mk (ch_left h)
        refine (mch_left A n c xs B m d ys w HX.out HY.out h h0.out).mono ?_
        rintro e w1 ⟨hB1, A1, c1, rfl, hb1⟩
        go_wp2_with fail
        have R1 := Aside0.mk (heap_alloc_new w1 (.cells #[.int .i64 (b8 xs 4), .int .i64 (b8 xs 5), .int .i64 (b8 xs 6), .int .i64 (rfN xs 0), .int .i64 (rfN xs 1), .int .i64 (rfN xs 2), .int .i64 (rfN xs 3), .slice A1 (rfCu xs).length c1] 26))
        have HB1 := Aside0.mk (below_then hB1 hB1.size ((Below.refl _ w1).alloc (Nat.le_refl _) (.cells #[.int .i64 (b8 xs 4), .int .i64 (b8 xs 5), .int .i64 (b8 xs 6), .int .i64 (rfN xs 0), .int .i64 (rfN xs 1), .int .i64 (rfN xs 2), .int .i64 (rfN xs 3), .slice A1 (rfCu xs).length c1] 26)))
        have Hb := Aside0.mk (hb1.alloc (.cells #[.int .i64 (b8 xs 4), .int .i64 (b8 xs 5), .int .i64 (b8 xs 6), .int .i64 (rfN xs 0), .int .i64 (rfN xs 1), .int .i64 (rfN xs 2), .int .i64 (rfN xs 3), .slice A1 (rfCu xs).length c1] 26))
        obtain ⟨W1, hW1⟩ : ∃ X, w1.alloc (.cells #[.int .i64 (b8 xs 4), .int .i64 (b8 xs 5), .int .i64 (b8 xs 6), .int .i64 (rfN xs 0), .int .i64 (rfN xs 1), .int .i64 (rfN xs 2), .int .i64 (rfN xs 3), .slice A1 (rfCu xs).length c1] 26) = X := ⟨_, rfl⟩
        obtain ⟨gm, hgm⟩ : ∃ k, w1.heap.size = k := ⟨_, rfl⟩
        rw [hW1, hgm] at R1
        rw [hW1] at HB1 Hb
        rw [hW1, hgm]
        clear hW1 hgm hB1 hb1
        refine (rch_left A n c xs B m d ys W1 (HX.out.below HB1.out) (HY.out.below HB1.out) h).mono ?_
        rintro e w2 ⟨hB2, _, rfl⟩
        have HT := Aside0.mk (show T2 w gm #[.int .i64 (b8 xs 4), .int .i64 (b8 xs 5), .int .i64 (b8 xs 6), .int .i64 (rfN xs 0), .int .i64 (rfN xs 1), .int .i64 (rfN xs 2), .int .i64 (rfN xs 3), .slice A1 (rfCu xs).length c1] w2.heap.size #[.int .i64 (b8 xs 4), .int .i64 (b8 xs 5), .int .i64 (b8 xs 6), .int .i64 (rfN xs 0), .int .i64 (rfN xs 1), .int .i64 (rfN xs 2), .int .i64 (rfN xs 3), .slice (rfA A c xs) (rfCu xs).length (rfC c xs)] (w2.alloc (.cells #[.int .i64 (b8 xs 4), .int .i64 (b8 xs 5), .int .i64 (b8 xs 6), .int .i64 (rfN xs 0), .int .i64 (rfN xs 1), .int .i64 (rfN xs 2), .int .i64 (rfN xs 3), .slice (rfA A c xs) (rfCu xs).length (rfC c xs)] 24)) from ⟨below_then (below_then HB1.out HB1.out.size hB2) (below_then HB1.out HB1.out.size hB2).size ((Below.refl _ w2).alloc (Nat.le_refl _) _), (Below.heap_alloc _ _ _ (Nat.lt_of_lt_of_le (Array.getElem?_eq_some_iff.1 R1.out).1 hB2.size)).trans ((hB2.block _ (Array.getElem?_eq_some_iff.1 R1.out).1).trans R1.out), heap_alloc_new w2 _⟩)
        have Hb2 := Aside0.mk ((Hb.out.below hB2).alloc (.cells #[.int .i64 (b8 xs 4), .int .i64 (b8 xs 5), .int .i64 (b8 xs 6), .int .i64 (rfN xs 0), .int .i64 (rfN xs 1), .int .i64 (rfN xs 2), .int .i64 (rfN xs 3), .slice (rfA A c xs) (rfCu xs).length (rfC c xs)] 24))
        clear hB2 R1 HB1 h Hb
        go_upto_region 5 with fail
        obtain ⟨W2, hW2⟩ : ∃ X, w2.alloc (.cells #[.int .i64 (b8 xs 4), .int .i64 (b8 xs 5), .int .i64 (b8 xs 6), .int .i64 (rfN xs 0), .int .i64 (rfN xs 1), .int .i64 (rfN xs 2), .int .i64 (rfN xs 3), .slice (rfA A c xs) (rfCu xs).length (rfC c xs)] 24) = X := ⟨_, rfl⟩
        obtain ⟨gn, hgn⟩ : ∃ k, w2.heap.size = k := ⟨_, rfl⟩
        rw [hW2, hgn] at HT
        rw [hW2] at Hb2
        rw [hW2, hgn]
        clear hW2 hgn
        obtain ⟨x0, x1, x2, x3, x4, x5, x6, x7⟩ := row8_cells HT.out.ra
        obtain ⟨y0, y1, y2, y3, y4, y5, y6, y7⟩ := row8_cells HT.out.rb
        have Hc := Aside0.mk (rfCu_bs h0.out (HX.out.below HT.out.bel))
        have ms := msame_refl (b8 xs 4) (b8 xs 5) (b8 xs 6) (rfN xs 0) (rfN xs 1) (rfN xs 2) (rfN xs 3) (rfCu xs)
        go_wp2_with (first
          | (go_at_call 9; (with_reducible refine (alive09_any _).mono ?_); rintro e wa ⟨rfl, hB⟩; (replace HT := Aside0.mk (HT.out.step hB)); (replace Hb2 := Aside0.mk (Hb2.out.below hB)); (replace Hc := Aside0.mk (Hc.out.below hB)); clear hB; (obtain ⟨x0, x1, x2, x3, x4, x5, x6, x7⟩ := row8_cells HT.out.ra); (obtain ⟨y0, y1, y2, y3, y4, y5, y6, y7⟩ := row8_cells HT.out.rb))
          | (go_at_call 18; (with_reducible refine (rmsame_any (b8 xs 4) (b8 xs 5) (b8 xs 6) (rfN xs 0) (rfN xs 1) (rfN xs 2) (rfN xs 3) A1 (rfCu xs).length c1 (rfCu xs) (b8 xs 4) (b8 xs 5) (b8 xs 6) (rfN xs 0) (rfN xs 1) (rfN xs 2) (rfN xs 3) (rfA A c xs) (rfCu xs).length (rfC c xs) (rfCu xs) _ Hb2.out Hc.out).mono ?_); rintro e wa ⟨rfl, hB⟩; rw [ms]; (replace HT := Aside0.mk (HT.out.step hB)); clear hB))
        go_ret
        exact ⟨rfl, HT.out.bel⟩
      · have h0 := Aside0.mk (ch_right h)
        refine (mch_right A n c xs B m d ys w HX.out HY.out h h0.out).mono ?_
        rintro e w1 ⟨hB1, A1, c1, rfl, hb1⟩
        go_wp2_with fail
        have R1 := Aside0.mk (heap_alloc_new w1 (.cells #[.int .i64 (b8 ys 4), .int .i64 (b8 ys 5), .int .i64 (b8 ys 6), .int .i64 (rfN ys 0), .int .i64 (rfN ys 1), .int .i64 (rfN ys 2), .int .i64 (rfN ys 3), .slice A1 (rfCu ys).length c1] 26))
        have HB1 := Aside0.mk (below_then hB1 hB1.size ((Below.refl _ w1).alloc (Nat.le_refl _) (.cells #[.int .i64 (b8 ys 4), .int .i64 (b8 ys 5), .int .i64 (b8 ys 6), .int .i64 (rfN ys 0), .int .i64 (rfN ys 1), .int .i64 (rfN ys 2), .int .i64 (rfN ys 3), .slice A1 (rfCu ys).length c1] 26)))
        have Hb := Aside0.mk (hb1.alloc (.cells #[.int .i64 (b8 ys 4), .int .i64 (b8 ys 5), .int .i64 (b8 ys 6), .int .i64 (rfN ys 0), .int .i64 (rfN ys 1), .int .i64 (rfN ys 2), .int .i64 (rfN ys 3), .slice A1 (rfCu ys).length c1] 26))
        obtain ⟨W1, hW1⟩ : ∃ X, w1.alloc (.cells #[.int .i64 (b8 ys 4), .int .i64 (b8 ys 5), .int .i64 (b8 ys 6), .int .i64 (rfN ys 0), .int .i64 (rfN ys 1), .int .i64 (rfN ys 2), .int .i64 (rfN ys 3), .slice A1 (rfCu ys).length c1] 26) = X := ⟨_, rfl⟩
        obtain ⟨gm, hgm⟩ : ∃ k, w1.heap.size = k := ⟨_, rfl⟩
        rw [hW1, hgm] at R1
        rw [hW1] at HB1 Hb
        rw [hW1, hgm]
        clear hW1 hgm hB1 hb1
        refine (rch_right A n c xs B m d ys W1 (HX.out.below HB1.out) (HY.out.below HB1.out) h).mono ?_
        rintro e w2 ⟨hB2, _, rfl⟩
        have HT := Aside0.mk (show T2 w gm #[.int .i64 (b8 ys 4), .int .i64 (b8 ys 5), .int .i64 (b8 ys 6), .int .i64 (rfN ys 0), .int .i64 (rfN ys 1), .int .i64 (rfN ys 2), .int .i64 (rfN ys 3), .slice A1 (rfCu ys).length c1] w2.heap.size #[.int .i64 (b8 ys 4), .int .i64 (b8 ys 5), .int .i64 (b8 ys 6), .int .i64 (rfN ys 0), .int .i64 (rfN ys 1), .int .i64 (rfN ys 2), .int .i64 (rfN ys 3), .slice (rfA B d ys) (rfCu ys).length (rfC d ys)] (w2.alloc (.cells #[.int .i64 (b8 ys 4), .int .i64 (b8 ys 5), .int .i64 (b8 ys 6), .int .i64 (rfN ys 0), .int .i64 (rfN ys 1), .int .i64 (rfN ys 2), .int .i64 (rfN ys 3), .slice (rfA B d ys) (rfCu ys).length (rfC d ys)] 24)) from ⟨below_then (below_then HB1.out HB1.out.size hB2) (below_then HB1.out HB1.out.size hB2).size ((Below.refl _ w2).alloc (Nat.le_refl _) _), (Below.heap_alloc _ _ _ (Nat.lt_of_lt_of_le (Array.getElem?_eq_some_iff.1 R1.out).1 hB2.size)).trans ((hB2.block _ (Array.getElem?_eq_some_iff.1 R1.out).1).trans R1.out), heap_alloc_new w2 _⟩)
        have Hb2 := Aside0.mk ((Hb.out.below hB2).alloc (.cells #[.int .i64 (b8 ys 4), .int .i64 (b8 ys 5), .int .i64 (b8 ys 6), .int .i64 (rfN ys 0), .int .i64 (rfN ys 1), .int .i64 (rfN ys 2), .int .i64 (rfN ys 3), .slice (rfA B d ys) (rfCu ys).length (rfC d ys)] 24))
        clear hB2 R1 HB1 h Hb
        go_upto_region 5 with fail
        obtain ⟨W2, hW2⟩ : ∃ X, w2.alloc (.cells #[.int .i64 (b8 ys 4), .int .i64 (b8 ys 5), .int .i64 (b8 ys 6), .int .i64 (rfN ys 0), .int .i64 (rfN ys 1), .int .i64 (rfN ys 2), .int .i64 (rfN ys 3), .slice (rfA B d ys) (rfCu ys).length (rfC d ys)] 24) = X := ⟨_, rfl⟩
        obtain ⟨gn, hgn⟩ : ∃ k, w2.heap.size = k := ⟨_, rfl⟩
        rw [hW2, hgn] at HT
        rw [hW2] at Hb2
        rw [hW2, hgn]
        clear hW2 hgn
        obtain ⟨x0, x1, x2, x3, x4, x5, x6, x7⟩ := row8_cells HT.out.ra
        obtain ⟨y0, y1, y2, y3, y4, y5, y6, y7⟩ := row8_cells HT.out.rb
        have Hc := Aside0.mk (rfCu_bs h0.out (HY.out.below HT.out.bel))
        have ms := msame_refl (b8 ys 4) (b8 ys 5) (b8 ys 6) (rfN ys 0) (rfN ys 1) (rfN ys 2) (rfN ys 3) (rfCu ys)
        go_wp2_with (first
          | (go_at_call 9; (with_reducible refine (alive09_any _).mono ?_); rintro e wa ⟨rfl, hB⟩; (replace HT := Aside0.mk (HT.out.step hB)); (replace Hb2 := Aside0.mk (Hb2.out.below hB)); (replace Hc := Aside0.mk (Hc.out.below hB)); clear hB; (obtain ⟨x0, x1, x2, x3, x4, x5, x6, x7⟩ := row8_cells HT.out.ra); (obtain ⟨y0, y1, y2, y3, y4, y5, y6, y7⟩ := row8_cells HT.out.rb))
          | (go_at_call 18; (with_reducible refine (rmsame_any (b8 ys 4) (b8 ys 5) (b8 ys 6) (rfN ys 0) (rfN ys 1) (rfN ys 2) (rfN ys 3) A1 (rfCu ys).length c1 (rfCu ys) (b8 ys 4) (b8 ys 5) (b8 ys 6) (rfN ys 0) (rfN ys 1) (rfN ys 2) (rfN ys 3) (rfA B d ys) (rfCu ys).length (rfC d ys) (rfCu ys) _ Hb2.out Hc.out).mono ?_); rintro e wa ⟨rfl, hB⟩; rw [ms]; (replace HT := Aside0.mk (HT.out.step hB)); clear hB))
        go_ret
        exact ⟨rfl, HT.out.bel⟩
end Go.Proofs.Ytenibcbodjkglaa
