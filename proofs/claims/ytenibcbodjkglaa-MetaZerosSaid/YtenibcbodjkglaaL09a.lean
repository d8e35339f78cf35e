/- The walk of meta's own small example. -/
import Derived.Test.YtenibcbodjkglaaM12
import Derived.Test.YtenibcbodjkglaaP4
set_option linter.unusedVariables false
set_option linter.unusedSimpArgs false
namespace Go.Proofs.Ytenibcbodjkglaa
open Go.RowKit

theorem rAlive : mrightB 1 0 0 1 2 3 0 ([] : List UInt8).length = true := by decide
/-- The bytes of the small example. -/
def exE : List UInt8 := encR 1 0 0 1 2 3 0 []
theorem exE_enc : encP 1 0 0 1 2 3 0 [] = exE := enc_eq rAlive
theorem exE_read : exE.length = 256 ∧ b8 exE 4 = 1 ∧ b8 exE 5 = 0 ∧ b8 exE 6 = 0 ∧ rfN exE 0 = 1 ∧ rfN exE 1 = 2 ∧ rfN exE 2 = 3 ∧ rfN exE 3 = 0 ∧ rfCu exE = [] ∧ refE exE = 0 := encR_read rAlive
theorem exE_dec : decE exE = 0 := by rw [dec_ref]; exact exE_read.2.2.2.2.2.2.2.2.2
theorem exE_rd : rdGe exE = 1 ∧ rdPh exE = 0 ∧ rdTg exE = 0 ∧ rdTx exE = 1 ∧ rdRt exE = 2 ∧ rdPg exE = 3 ∧ rdLi exE = 0 ∧ rdCu exE = [] := by
  obtain ⟨_, a1, a2, a3, a4, a5, a6, a7, a8, a9⟩ := exE_read
  obtain ⟨b1, b2, b3, b4, b5, b6, b7, b8⟩ := rd_rf a9
  exact ⟨b1.trans a1, b2.trans a2, b3.trans a3, b4.trans a4, b5.trans a5, b6.trans a6, b7.trans a7, b8.trans a8⟩
theorem exE_hundred : exE.getD 100 0 = 0 := by
  have h := encR_noughts rAlive
  have e : (List.take 128 (List.drop 64 exE)).getD 36 0 = 0 := by
    have h' : List.take 128 (List.drop 64 exE) = List.replicate 128 0 := h
    rw [h', List.getD_eq_getElem?_getD, List.getElem?_replicate_of_lt (by omega)]
    rfl
  rw [List.getD_eq_getElem?_getD, List.getElem?_take_of_lt (by omega), List.getElem?_drop] at e
  rw [List.getD_eq_getElem?_getD]
  exact e
/-- One byte of it is another. -/
def exT : List UInt8 := exE.set 100 1
theorem exT_low (i : Nat) (h : i ≠ 100) : exT.getD i 0 = exE.getD i 0 := by
  unfold exT
  simp only [List.getD_eq_getElem?_getD]
  rw [List.getElem?_set_ne (Ne.symm h)]
theorem exT_dec : decE exT ≠ 0 ∧ decE exT ≠ 93 := by
  have b4 : b8 exT 4 = 1 := by unfold b8; rw [exT_low 4 (by omega)]; exact exE_read.2.1
  have b6 : b8 exT 6 = 0 := by unfold b8; rw [exT_low 6 (by omega)]; exact exE_read.2.2.2.1
  have bh : b8 exT 100 = 1 := by
    unfold b8 exT
    rw [List.getD_eq_getElem?_getD, List.getElem?_set_self (by rw [exE_read.1]; omega)]
    rfl
  rw [dec_ref]
  constructor
  · intro h
    obtain ⟨hl, _, _, _, _, _, _, he, hz, hR⟩ := ref_ok h
    have hs := right_small hR
    have h7 : 100 ≥ rfEnd exT := by
      have hc : (rfCu exT).length = (b8 exT 7).toNat := by
        have h7 := b8_lo exT 7
        have he2 := he
        unfold rfEnd at he2
        unfold rfCu
        rw [List.length_take, List.length_drop]
        omega
      unfold rfEnd rfW
      rw [← hc]
      omega
    have := (rfZ_iff exT hl).1 hz 100 h7 (by omega)
    omega
  · intro h
    unfold refE at h
    split at h
    · split at h
      · rw [if_pos ⟨by omega, by omega, by omega⟩] at h
        split at h <;> omega
      · omega
    · omega
theorem dec_nil : decE [] = 90 := by
  unfold decE
  rw [if_neg (fun k => absurd k.1 (by decide))]
theorem exE_at : chAt (decE []) (rdTx []) (decE exE) (rdTx exE) = 1 := by
  rw [dec_nil, exE_dec, exE_rd.2.2.2.1]
  unfold chAt
  rw [if_pos ⟨rfl, by omega, fun h => by omega⟩]
theorem exT_at : chAt (decE []) (rdTx []) (decE exT) (rdTx exT) = -1 := by
  have := exT_dec.1
  rw [dec_nil]
  unfold chAt
  rw [if_neg (fun k => this k.1), if_neg (by omega)]
theorem exT_e : chE (decE []) (decE exT) = 92 := by
  have := exT_dec.2
  rw [dec_nil]
  unfold chE
  rw [if_neg (by omega)]

theorem exEnc_any (w : World) : Calls Try.prog 10 #[.agg #[.int .i64 1, .int .i64 0, .int .i64 0, .int .i64 1, .int .i64 2, .int .i64 3, .int .i64 0, .slice none 0 0]] w fun e w' => Below w.heap.size w w' ∧ ∃ A c, e = .returned (.tuple #[.slice A 256 c, .int .i64 0]) ∧ Ow w' w.heap.size A 256 c exE := by
  refine (mencode_any 1 0 0 1 2 3 0 none 0 0 [] w (Bs.nil _ _ _ (by omega))).mono ?_
  rintro e w' ⟨hB, ⟨h, _⟩ | ⟨_, A, c, rfl, hO⟩⟩
  · exact absurd h (by decide)
  · rw [exE_enc, exE_read.1] at hO ⊢
    exact ⟨hB, A, c, rfl, hO⟩
theorem exDec_any (A : Option Addr) (c : Nat) (w : World) (hb : Bs w A 256 c exE) : Calls Try.prog 17 #[.slice A 256 c] w fun e w' => Below w.heap.size w w' ∧ ∃ A1 c1, e = .returned (.tuple #[.agg #[.int .i64 1, .int .i64 0, .int .i64 0, .int .i64 1, .int .i64 2, .int .i64 3, .int .i64 0, .slice A1 0 c1], .int .i64 0]) ∧ Bs w' A1 0 c1 [] := by
  refine (mdecode_any A 256 c exE w hb).mono ?_
  rintro e w' ⟨hB, ⟨h, _⟩ | ⟨_, A1, c1, rfl, hO⟩⟩
  · exact absurd exE_dec h
  · obtain ⟨a1, a2, a3, a4, a5, a6, a7, a8⟩ := exE_rd
    rw [a8] at hO
    rw [a1, a2, a3, a4, a5, a6, a7, a8]
    exact ⟨hB, A1, c1, rfl, hO.bs⟩
theorem exCh0_any (A : Option Addr) (c : Nat) (w : World) (hb : Bs w A 256 c exE) : Calls Try.prog 20 #[.slice none 0 0, .slice A 256 c] w fun e w' => Below w.heap.size w w' ∧ ∃ A1 c1, e = .returned (.tuple #[.agg #[.int .i64 1, .int .i64 0, .int .i64 0, .int .i64 1, .int .i64 2, .int .i64 3, .int .i64 0, .slice A1 0 c1], .int .i64 1, .int .i64 0]) ∧ Bs w' A1 0 c1 [] := by
  refine (mchoose_any none 0 0 [] A 256 c exE w (Bs.nil _ _ _ (by omega)) hb).mono ?_
  rintro e w' ⟨hB, hc⟩
  rw [exE_at] at hc
  rcases hc with ⟨h, _⟩ | ⟨h, _⟩ | ⟨_, A1, c1, rfl, hO⟩
  · omega
  · omega
  · obtain ⟨a1, a2, a3, a4, a5, a6, a7, a8⟩ := exE_rd
    rw [a8] at hO
    rw [a1, a2, a3, a4, a5, a6, a7, a8]
    exact ⟨hB, A1, c1, rfl, hO⟩
theorem exCh1_any (A : Option Addr) (c : Nat) (w : World) (hb : Bs w A 256 c exT) : Calls Try.prog 20 #[.slice none 0 0, .slice A 256 c] w fun e w' => Below w.heap.size w w' ∧ e = .returned (.tuple #[.agg #[.int .i64 0, .int .i64 0, .int .i64 0, .int .i64 0, .int .i64 0, .int .i64 0, .int .i64 0, .slice none 0 0], .int .i64 (-1), .int .i64 92]) := by
  refine (mchoose_any none 0 0 [] A 256 c exT w (Bs.nil _ _ _ (by omega)) hb).mono ?_
  rintro e w' ⟨hB, hc⟩
  rw [exT_at, exT_e] at hc
  rcases hc with ⟨_, rfl⟩ | ⟨h, _⟩ | ⟨h, _⟩
  · exact ⟨hB, rfl⟩
  · omega
  · omega
/-- What the small example keeps: the meta in its box, and the bytes. -/
structure I9 (w : World) (g c : Nat) (xs : List UInt8) (W : World) : Prop where
  bel : Below w.heap.size w W
  row : W.heap[w.heap.size]? = some (.cells #[.int .i64 1, .int .i64 0, .int .i64 0, .int .i64 1, .int .i64 2, .int .i64 3, .int .i64 0, .slice none 0 0] 26)
  own : Ow W (w.heap.size + 1) (some ⟨g, 0, none⟩) 256 c xs
theorem I9.step {w W W1 : World} {g c : Nat} {xs : List UInt8} (h : I9 w g c xs W) (hB : Below W.heap.size W W1) : I9 w g c xs W1 :=
  ⟨below_then h.bel h.bel.size hB, (hB.block _ (Array.getElem?_eq_some_iff.1 h.row).1).trans h.row, h.own.below hB⟩
theorem Ow.gl {w : World} {base g n c : Nat} {xs : List UInt8} (h : Ow w base (some ⟨g, 0, none⟩) (n + 1) c xs) : g < w.heap.size := by
  obtain ⟨k, e, _, h2, _⟩ := h.head (by omega)
  injection e with e
  injection e with e
  omega
theorem Ow.gb {w : World} {base g n c : Nat} {xs : List UInt8} (h : Ow w base (some ⟨g, 0, none⟩) (n + 1) c xs) : base ≤ g := by
  obtain ⟨k, e, h1, _, _⟩ := h.head (by omega)
  injection e with e
  injection e with e
  omega
theorem Ow.fr {w : World} {base g n c : Nat} {xs : List UInt8} (h : Ow w base (some ⟨g, 0, none⟩) (n + 1) c xs) (j : Nat) : w.frozen? ⟨g, j, none⟩ = false := by
  obtain ⟨k, e, _, _, h3⟩ := h.head (by omega)
  injection e with e
  injection e with e
  rw [e]
  exact h3 j
/-- With the decoded meta in its box. -/
structure I9b (w : World) (g c : Nat) (xs : List UInt8) (gn : Nat) (A1 : Option Addr) (c1 : Nat) (W : World) : Prop where
  i : I9 w g c xs W
  row : W.heap[gn]? = some (.cells #[.int .i64 1, .int .i64 0, .int .i64 0, .int .i64 1, .int .i64 2, .int .i64 3, .int .i64 0, .slice A1 0 c1] 26)
  b : Bs W A1 0 c1 []
  ne : g < gn
theorem I9b.step {w W W1 : World} {g c : Nat} {xs : List UInt8} {gn c1 : Nat} {A1 : Option Addr} (h : I9b w g c xs gn A1 c1 W) (hB : Below W.heap.size W W1) : I9b w g c xs gn A1 c1 W1 :=
  ⟨h.i.step hB, (hB.block _ (Array.getElem?_eq_some_iff.1 h.row).1).trans h.row, h.b.below hB, h.ne⟩
/-- With the chosen one too. -/
structure I9c (w : World) (g c : Nat) (xs : List UInt8) (gn : Nat) (A1 : Option Addr) (c1 : Nat) (gc : Nat) (A3 : Option Addr) (c3 : Nat) (W : World) : Prop where
  j : I9b w g c xs gn A1 c1 W
  row : W.heap[gc]? = some (.cells #[.int .i64 1, .int .i64 0, .int .i64 0, .int .i64 1, .int .i64 2, .int .i64 3, .int .i64 0, .slice A3 0 c3] 26)
  b : Bs W A3 0 c3 []
  ne : g < gc
theorem I9c.step {w W W1 : World} {g c : Nat} {xs : List UInt8} {gn c1 : Nat} {A1 : Option Addr} {gc c3 : Nat} {A3 : Option Addr} (h : I9c w g c xs gn A1 c1 gc A3 c3 W) (hB : Below W.heap.size W W1) : I9c w g c xs gn A1 c1 gc A3 c3 W1 :=
  ⟨h.j.step hB, (hB.block _ (Array.getElem?_eq_some_iff.1 h.row).1).trans h.row, h.b.below hB, h.ne⟩
theorem I9c.hit {w W : World} {g c : Nat} {gn c1 : Nat} {A1 : Option Addr} {gc c3 : Nat} {A3 : Option Addr} (h : I9c w g c exE gn A1 c1 gc A3 c3 W) : I9c w g c exT gn A1 c1 gc A3 c3 (W.setCell ⟨g, 100, none⟩ (.int .u8 1)) := by
  have hb := h.j.i.own.gb
  have ho := (OnlyB.refl g W).set 100 (.int .u8 1)
  have n1 := h.j.ne
  have n2 := h.ne
  have c1 := (Bs.nil (W.setCell ⟨g, 100, none⟩ (.int .u8 1)) A1 c1 (by have := h.j.b.cap; omega))
  have c3 := (Bs.nil (W.setCell ⟨g, 100, none⟩ (.int .u8 1)) A3 c3 (by have := h.b.cap; omega))
  exact ⟨⟨⟨below_set _ h.j.i.bel (by omega), (ho.block _ (Array.getElem?_eq_some_iff.1 h.j.i.row).1 (by omega)).trans h.j.i.row, h.j.i.own.store 100 1⟩, (ho.block _ (Array.getElem?_eq_some_iff.1 h.j.row).1 (by omega)).trans h.j.row, c1, n1⟩, (ho.block _ (Array.getElem?_eq_some_iff.1 h.row).1 (by omega)).trans h.row, c3, n2⟩
set_option maxHeartbeats 4000000 in
set_option maxRecDepth 100000 in
theorem alive09_any (w : World) : Calls Try.prog 9 #[] w fun e w' => e = .returned (.bool true) ∧ Below w.heap.size w w' := by
  go_enter Try.func9, Try.ntmps9
  go_wp2_with fail
  have R0 := heap_alloc_new w (.cells #[.int .i64 1, .int .i64 0, .int .i64 0, .int .i64 1, .int .i64 2, .int .i64 3, .int .i64 0, .slice none 0 0] 26)
  have B0 := (Below.refl w.heap.size w).alloc (Nat.le_refl _) (.cells #[.int .i64 1, .int .i64 0, .int .i64 0, .int .i64 1, .int .i64 2, .int .i64 3, .int .i64 0, .slice none 0 0] 26)
  obtain ⟨W0, hW0⟩ : ∃ X, w.alloc (.cells #[.int .i64 1, .int .i64 0, .int .i64 0, .int .i64 1, .int .i64 2, .int .i64 3, .int .i64 0, .slice none 0 0] 26) = X := ⟨_, rfl⟩
  have S0 : W0.heap.size = w.heap.size + 1 := by rw [← hW0]; simp
  rw [hW0] at R0 B0 ⊢
  clear hW0
  refine (exEnc_any W0).mono ?_
  rintro e w1 ⟨hB1, A, c, rfl, hO1⟩
  obtain ⟨g, rfl, hg0, hg1, _⟩ := hO1.head (by omega)
  have HI := Aside0.mk (show I9 w g c exE w1 from ⟨below_then B0 B0.size hB1, (hB1.block _ (Array.getElem?_eq_some_iff.1 R0).1).trans R0, hO1.mono (by omega)⟩)
  clear hB1 hO1 R0 B0 S0 hg0 hg1
  go_wp2_with fail
  refine (exDec_any _ c w1 HI.out.own.bs).mono ?_
  rintro e w2 ⟨hB2, A1, c1, rfl, hb1⟩
  go_wp2_with fail
  have HJ := Aside0.mk (show I9b w g c exE w2.heap.size A1 c1 (w2.alloc (.cells #[.int .i64 1, .int .i64 0, .int .i64 0, .int .i64 1, .int .i64 2, .int .i64 3, .int .i64 0, .slice A1 0 c1] 26)) from ⟨(HI.out.step hB2).step ((Below.refl _ w2).alloc (Nat.le_refl _) _), heap_alloc_new w2 _, hb1.alloc _, by have := hB2.size; have := HI.out.own.gl; omega⟩)
  obtain ⟨gn, hgn⟩ : ∃ k, w2.heap.size = k := ⟨_, rfl⟩
  obtain ⟨W2, hW2⟩ : ∃ X, w2.alloc (.cells #[.int .i64 1, .int .i64 0, .int .i64 0, .int .i64 1, .int .i64 2, .int .i64 3, .int .i64 0, .slice A1 0 c1] 26) = X := ⟨_, rfl⟩
  rw [hW2, hgn] at HJ
  rw [hW2, hgn]
  clear hW2 hgn hB2 hb1 HI
  refine (exCh0_any _ c W2 HJ.out.i.own.bs).mono ?_
  rintro e w3 ⟨hB3, A3, c3, rfl, hb3⟩
  have HK := Aside0.mk (show I9c w g c exE gn A1 c1 w3.heap.size A3 c3 (w3.alloc (.cells #[.int .i64 1, .int .i64 0, .int .i64 0, .int .i64 1, .int .i64 2, .int .i64 3, .int .i64 0, .slice A3 0 c3] 26)) from ⟨(HJ.out.step hB3).step ((Below.refl _ w3).alloc (Nat.le_refl _) _), heap_alloc_new w3 _, hb3.alloc _, by have := hB3.size; have := HJ.out.i.own.gl; omega⟩)
  obtain ⟨W3, hW3⟩ : ∃ X, w3.alloc (.cells #[.int .i64 1, .int .i64 0, .int .i64 0, .int .i64 1, .int .i64 2, .int .i64 3, .int .i64 0, .slice A3 0 c3] 26) = X := ⟨_, rfl⟩
  obtain ⟨gc, hgc⟩ : ∃ k, w3.heap.size = k := ⟨_, rfl⟩
  rw [hW3, hgc] at HK
  clear hB3 hb3 HJ
  obtain ⟨ad, had, hx⟩ := HK.out.j.i.own.bs.cells (by omega)
  obtain rfl := Option.some.inj had
  have x100 : W3.cell? ⟨g, 100, none⟩ = some (.int .u8 0) := by
    have := hx 100 (by omega)
    rw [add_plain] at this
    rw [this]
    unfold b8
    rw [exE_hundred]
    rfl
  clear hx had
  have f100 : W3.frozen? ⟨g, 100, none⟩ = false := HK.out.j.i.own.fr 100
  have HL := Aside0.mk (HK.out.hit)
  go_wp2_with fail
  clear x100 f100 hW3 hgc HK
  obtain ⟨W4, hW4⟩ : ∃ X, W3.setCell ⟨g, 100, none⟩ (.int .u8 1) = X := ⟨_, rfl⟩
  rw [hW4] at HL ⊢
  clear hW4
  refine (exCh1_any _ c W4 HL.out.j.i.own.bs).mono ?_
  rintro e w5 ⟨hB5, rfl⟩
  have HJ := Aside0.mk ((HL.out.step hB5).step ((Below.refl _ w5).alloc (Nat.le_refl _) (.cells #[.int .i64 0, .int .i64 0, .int .i64 0, .int .i64 0, .int .i64 0, .int .i64 0, .int .i64 0, .slice none 0 0] 26)))
  clear hB5 HL
  go_upto_region 9 with fail
  obtain ⟨W5, hW5⟩ : ∃ X, w5.alloc (.cells #[.int .i64 0, .int .i64 0, .int .i64 0, .int .i64 0, .int .i64 0, .int .i64 0, .int .i64 0, .slice none 0 0] 26) = X := ⟨_, rfl⟩
  rw [hW5] at HJ ⊢
  clear hW5
  (obtain ⟨x0, x1, x2, x3, x4, x5, x6, x7⟩ := row8_cells HJ.out.j.i.row)
  (obtain ⟨y0, y1, y2, y3, y4, y5, y6, y7⟩ := row8_cells HJ.out.j.row)
  (obtain ⟨z0, z1, z2, z3, z4, z5, z6, z7⟩ := row8_cells HJ.out.row)
  have m1 : msameB 1 0 0 1 2 3 0 [] 1 0 0 1 2 3 0 [] = true := by decide
  have m2 : mrightB 1 0 0 1 2 3 0 0 = true := by decide
  have m3 : writeI 1 0 0 = 1 := by decide
  go_wp2_with (first
    | (go_at_call 16; first
        | ((with_reducible refine (msame_any 1 0 0 1 2 3 0 none 0 0 [] 1 0 0 1 2 3 0 A1 0 c1 [] _ (Bs.nil _ _ _ (by omega)) HJ.out.j.b).mono ?_); rintro e wa ⟨rfl, hB⟩; rw [m1]; (replace HJ := Aside0.mk (HJ.out.step hB)); clear hB; (obtain ⟨x0, x1, x2, x3, x4, x5, x6, x7⟩ := row8_cells HJ.out.j.i.row); (obtain ⟨y0, y1, y2, y3, y4, y5, y6, y7⟩ := row8_cells HJ.out.j.row); (obtain ⟨z0, z1, z2, z3, z4, z5, z6, z7⟩ := row8_cells HJ.out.row))
        | ((with_reducible refine (msame_any 1 0 0 1 2 3 0 A3 0 c3 [] 1 0 0 1 2 3 0 none 0 0 [] _ HJ.out.b (Bs.nil _ _ _ (by omega))).mono ?_); rintro e wa ⟨rfl, hB⟩; rw [m1]; (replace HJ := Aside0.mk (HJ.out.step hB)); clear hB; (obtain ⟨x0, x1, x2, x3, x4, x5, x6, x7⟩ := row8_cells HJ.out.j.i.row); (obtain ⟨y0, y1, y2, y3, y4, y5, y6, y7⟩ := row8_cells HJ.out.j.row); (obtain ⟨z0, z1, z2, z3, z4, z5, z6, z7⟩ := row8_cells HJ.out.row)))
    | (go_at_call 13; (with_reducible refine (mright_any 1 0 0 1 2 3 0 none 0 0 _ (by omega)).mono ?_); rintro e wa ⟨rfl, hB⟩; rw [m2]; (replace HJ := Aside0.mk (HJ.out.step hB)); clear hB; (obtain ⟨x0, x1, x2, x3, x4, x5, x6, x7⟩ := row8_cells HJ.out.j.i.row); (obtain ⟨y0, y1, y2, y3, y4, y5, y6, y7⟩ := row8_cells HJ.out.j.row); (obtain ⟨z0, z1, z2, z3, z4, z5, z6, z7⟩ := row8_cells HJ.out.row))
    | (go_at_call 15; (with_reducible refine (mwrite_any 1 0 0 1 2 3 0 none 0 0 _).mono ?_); rintro e wa ⟨rfl, hB⟩; rw [m3]; (replace HJ := Aside0.mk (HJ.out.step hB)); clear hB; (obtain ⟨x0, x1, x2, x3, x4, x5, x6, x7⟩ := row8_cells HJ.out.j.i.row); (obtain ⟨y0, y1, y2, y3, y4, y5, y6, y7⟩ := row8_cells HJ.out.j.row); (obtain ⟨z0, z1, z2, z3, z4, z5, z6, z7⟩ := row8_cells HJ.out.row))
    | (go_at_call 22; (with_reducible refine (slot_any 5 _).mono ?_); rintro e wa ⟨rfl, rfl⟩))
  go_ret
  exact ⟨rfl, HJ.out.j.i.bel⟩
end Go.Proofs.Ytenibcbodjkglaa
