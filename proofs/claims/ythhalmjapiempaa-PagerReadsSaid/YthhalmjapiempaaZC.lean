/- The walk of meta's own small example. The walk of MetaChooses. The walk of MetaEncodes. The walk of MetaNewer. -/
import Derived.Test.YthhalmjapiempaaZA
import Derived.Test.YthhalmjapiempaaZB
set_option linter.unusedVariables false
set_option linter.unusedSimpArgs false
namespace Go.Proofs.Ythhalmjapiempaa
open Go.RowKit

theorem rAlive : mrightB 1 0 0 1 2 3 0 ([] : List UInt8).length = true := by decide
/-- The bytes of the small example. -/
def exE : List UInt8 := encR 1 0 0 1 2 3 0 []
theorem exE_enc : encP 1 0 0 1 2 3 0 [] = exE := enc_eq rAlive
theorem exE_read : exE.length = 256 ∧ b8 exE 4 = 1 ∧ b8 exE 5 = 0 ∧ b8 exE 6 = 0 ∧ rfN exE 0 = 1 ∧ rfN exE 1 = 2 ∧ rfN exE 2 = 3 ∧ rfN exE 3 = 0 ∧ rfCu exE = [] ∧ refE exE = 0 := encR_read rAlive
theorem exE_dec : decE exE = 0 := by rw [dec_ref]; exact exE_read.2.2.2.2.2.2.2.2.2
theorem exE_rd : rdGe exE = 1 ∧ rdPh exE = 0 ∧ rdTg exE = 0 ∧ rdTx exE = 1 ∧ rdRt exE = 2 ∧ rdPg exE = 3 ∧ rdLi exE = 0 ∧ rdCu exE = [] := by
  obtain ⟨_, a1, a2, a3, a4, a5, a6, a7, a8, a9⟩ := exE_read
  obtain ⟨b1, b2, b3, b4, b5, b6, b7, b8⟩ := rd_rf a9
  exact ⟨b1.trans a1, b2.trans a2, b3.trans a3, b4.trans a4, b5.trans a5, b6.trans a6, b7.trans a7, b8.trans a8⟩
theorem exE_hundred : exE.getD 100 0 = 0 := by
  have h := encR_noughts rAlive
  have e : (List.take 128 (List.drop 64 exE)).getD 36 0 = 0 := by
    have h' : List.take 128 (List.drop 64 exE) = List.replicate 128 0 := h
    rw [h', List.getD_eq_getElem?_getD, List.getElem?_replicate_of_lt (by omega)]
    rfl
  rw [List.getD_eq_getElem?_getD, List.getElem?_take_of_lt (by omega), List.getElem?_drop] at e
  rw [List.getD_eq_getElem?_getD]
  exact e
/-- One byte of it is another. -/
def exT : List UInt8 := exE.set 100 1
theorem exT_low (i : Nat) (h : i ≠ 100) : exT.getD i 0 = exE.getD i 0 := by
  unfold exT
  simp only [List.getD_eq_getElem?_getD]
  rw [List.getElem?_set_ne (Ne.symm h)]
theorem exT_dec : decE exT ≠ 0 ∧ decE exT ≠ 93 := by
  have b4 : b8 exT 4 = 1 := by unfold b8; rw [exT_low 4 (by omega)]; exact exE_read.2.1
  have b6 : b8 exT 6 = 0 := by unfold b8; rw [exT_low 6 (by omega)]; exact exE_read.2.2.2.1
  have bh : b8 exT 100 = 1 := by
    unfold b8 exT
    rw [List.getD_eq_getElem?_getD, List.getElem?_set_self (by rw [exE_read.1]; omega)]
    rfl
  rw [dec_ref]
  constructor
  · intro h
    obtain ⟨hl, _, _, _, _, _, _, he, hz, hR⟩ := ref_ok h
    have hs := right_small hR
    have h7 : 100 ≥ rfEnd exT := by
      have hc : (rfCu exT).length = (b8 exT 7).toNat := by
        have h7 := b8_lo exT 7
        have he2 := he
        unfold rfEnd at he2
        unfold rfCu
        rw [List.length_take, List.length_drop]
        omega
      unfold rfEnd rfW
      rw [← hc]
      omega
    have := (rfZ_iff exT hl).1 hz 100 h7 (by omega)
    omega
  · intro h
    unfold refE at h
    split at h
    · split at h
      · rw [if_pos ⟨by omega, by omega, by omega⟩] at h
        split at h <;> omega
      · omega
    · omega
theorem dec_nil : decE [] = 90 := by
  unfold decE
  rw [if_neg (fun k => absurd k.1 (by decide))]
theorem exE_at : chAt (decE []) (rdTx []) (decE exE) (rdTx exE) = 1 := by
  rw [dec_nil, exE_dec, exE_rd.2.2.2.1]
  unfold chAt
  rw [if_pos ⟨rfl, by omega, fun h => by omega⟩]
theorem exT_at : chAt (decE []) (rdTx []) (decE exT) (rdTx exT) = -1 := by
  have := exT_dec.1
  rw [dec_nil]
  unfold chAt
  rw [if_neg (fun k => this k.1), if_neg (by omega)]
theorem exT_e : chE (decE []) (decE exT) = 92 := by
  have := exT_dec.2
  rw [dec_nil]
  unfold chE
  rw [if_neg (by omega)]

theorem exEnc_any (w : World) : Calls Try.prog 43 #[.agg #[.int .i64 1, .int .i64 0, .int .i64 0, .int .i64 1, .int .i64 2, .int .i64 3, .int .i64 0, .slice none 0 0]] w fun e w' => Below w.heap.size w w' ∧ ∃ A c, e = .returned (.tuple #[.slice A 256 c, .int .i64 0]) ∧ Ow w' w.heap.size A 256 c exE := by
  refine (mencode_any 1 0 0 1 2 3 0 none 0 0 [] w (Bs.nil _ _ _ (by omega))).mono ?_
  rintro e w' ⟨hB, ⟨h, _⟩ | ⟨_, A, c, rfl, hO⟩⟩
  · exact absurd h (by decide)
  · rw [exE_enc, exE_read.1] at hO ⊢
    exact ⟨hB, A, c, rfl, hO⟩
theorem exDec_any (A : Option Addr) (c : Nat) (w : World) (hb : Bs w A 256 c exE) : Calls Try.prog 77 #[.slice A 256 c] w fun e w' => Below w.heap.size w w' ∧ ∃ A1 c1, e = .returned (.tuple #[.agg #[.int .i64 1, .int .i64 0, .int .i64 0, .int .i64 1, .int .i64 2, .int .i64 3, .int .i64 0, .slice A1 0 c1], .int .i64 0]) ∧ Bs w' A1 0 c1 [] := by
  refine (mdecode_any A 256 c exE w hb).mono ?_
  rintro e w' ⟨hB, ⟨h, _⟩ | ⟨_, A1, c1, rfl, hO⟩⟩
  · exact absurd exE_dec h
  · obtain ⟨a1, a2, a3, a4, a5, a6, a7, a8⟩ := exE_rd
    rw [a8] at hO
    rw [a1, a2, a3, a4, a5, a6, a7, a8]
    exact ⟨hB, A1, c1, rfl, hO.bs⟩
theorem exCh0_any (A : Option Addr) (c : Nat) (w : World) (hb : Bs w A 256 c exE) : Calls Try.prog 48 #[.slice none 0 0, .slice A 256 c] w fun e w' => Below w.heap.size w w' ∧ ∃ A1 c1, e = .returned (.tuple #[.agg #[.int .i64 1, .int .i64 0, .int .i64 0, .int .i64 1, .int .i64 2, .int .i64 3, .int .i64 0, .slice A1 0 c1], .int .i64 1, .int .i64 0]) ∧ Bs w' A1 0 c1 [] := by
  refine (mchoose_any none 0 0 [] A 256 c exE w (Bs.nil _ _ _ (by omega)) hb).mono ?_
  rintro e w' ⟨hB, hc⟩
  rw [exE_at] at hc
  rcases hc with ⟨h, _⟩ | ⟨h, _⟩ | ⟨_, A1, c1, rfl, hO⟩
  · omega
  · omega
  · obtain ⟨a1, a2, a3, a4, a5, a6, a7, a8⟩ := exE_rd
    rw [a8] at hO
    rw [a1, a2, a3, a4, a5, a6, a7, a8]
    exact ⟨hB, A1, c1, rfl, hO⟩
theorem exCh1_any (A : Option Addr) (c : Nat) (w : World) (hb : Bs w A 256 c exT) : Calls Try.prog 48 #[.slice none 0 0, .slice A 256 c] w fun e w' => Below w.heap.size w w' ∧ e = .returned (.tuple #[.agg #[.int .i64 0, .int .i64 0, .int .i64 0, .int .i64 0, .int .i64 0, .int .i64 0, .int .i64 0, .slice none 0 0], .int .i64 (-1), .int .i64 92]) := by
  refine (mchoose_any none 0 0 [] A 256 c exT w (Bs.nil _ _ _ (by omega)) hb).mono ?_
  rintro e w' ⟨hB, hc⟩
  rw [exT_at, exT_e] at hc
  rcases hc with ⟨_, rfl⟩ | ⟨h, _⟩ | ⟨h, _⟩
  · exact ⟨hB, rfl⟩
  · omega
  · omega
/-- What the small example keeps: the meta in its box, and the bytes. -/
structure I9 (w : World) (g c : Nat) (xs : List UInt8) (W : World) : Prop where
  bel : Below w.heap.size w W
  row : W.heap[w.heap.size]? = some (.cells #[.int .i64 1, .int .i64 0, .int .i64 0, .int .i64 1, .int .i64 2, .int .i64 3, .int .i64 0, .slice none 0 0] 36)
  own : Ow W (w.heap.size + 1) (some ⟨g, 0, none⟩) 256 c xs
theorem I9.step {w W W1 : World} {g c : Nat} {xs : List UInt8} (h : I9 w g c xs W) (hB : Below W.heap.size W W1) : I9 w g c xs W1 :=
  ⟨below_then h.bel h.bel.size hB, (hB.block _ (Array.getElem?_eq_some_iff.1 h.row).1).trans h.row, h.own.below hB⟩
theorem Ow.gl {w : World} {base g n c : Nat} {xs : List UInt8} (h : Ow w base (some ⟨g, 0, none⟩) (n + 1) c xs) : g < w.heap.size := by
  obtain ⟨k, e, _, h2, _⟩ := h.head (by omega)
  injection e with e
  injection e with e
  omega
theorem Ow.gb {w : World} {base g n c : Nat} {xs : List UInt8} (h : Ow w base (some ⟨g, 0, none⟩) (n + 1) c xs) : base ≤ g := by
  obtain ⟨k, e, h1, _, _⟩ := h.head (by omega)
  injection e with e
  injection e with e
  omega
theorem Ow.fr {w : World} {base g n c : Nat} {xs : List UInt8} (h : Ow w base (some ⟨g, 0, none⟩) (n + 1) c xs) (j : Nat) : w.frozen? ⟨g, j, none⟩ = false := by
  obtain ⟨k, e, _, _, h3⟩ := h.head (by omega)
  injection e with e
  injection e with e
  rw [e]
  exact h3 j
/-- With the decoded meta in its box. -/
structure I9b (w : World) (g c : Nat) (xs : List UInt8) (gn : Nat) (A1 : Option Addr) (c1 : Nat) (W : World) : Prop where
  i : I9 w g c xs W
  row : W.heap[gn]? = some (.cells #[.int .i64 1, .int .i64 0, .int .i64 0, .int .i64 1, .int .i64 2, .int .i64 3, .int .i64 0, .slice A1 0 c1] 36)
  b : Bs W A1 0 c1 []
  ne : g < gn
theorem I9b.step {w W W1 : World} {g c : Nat} {xs : List UInt8} {gn c1 : Nat} {A1 : Option Addr} (h : I9b w g c xs gn A1 c1 W) (hB : Below W.heap.size W W1) : I9b w g c xs gn A1 c1 W1 :=
  ⟨h.i.step hB, (hB.block _ (Array.getElem?_eq_some_iff.1 h.row).1).trans h.row, h.b.below hB, h.ne⟩
/-- With the chosen one too. -/
structure I9c (w : World) (g c : Nat) (xs : List UInt8) (gn : Nat) (A1 : Option Addr) (c1 : Nat) (gc : Nat) (A3 : Option Addr) (c3 : Nat) (W : World) : Prop where
  j : I9b w g c xs gn A1 c1 W
  row : W.heap[gc]? = some (.cells #[.int .i64 1, .int .i64 0, .int .i64 0, .int .i64 1, .int .i64 2, .int .i64 3, .int .i64 0, .slice A3 0 c3] 36)
  b : Bs W A3 0 c3 []
  ne : g < gc
theorem I9c.step {w W W1 : World} {g c : Nat} {xs : List UInt8} {gn c1 : Nat} {A1 : Option Addr} {gc c3 : Nat} {A3 : Option Addr} (h : I9c w g c xs gn A1 c1 gc A3 c3 W) (hB : Below W.heap.size W W1) : I9c w g c xs gn A1 c1 gc A3 c3 W1 :=
  ⟨h.j.step hB, (hB.block _ (Array.getElem?_eq_some_iff.1 h.row).1).trans h.row, h.b.below hB, h.ne⟩
theorem I9c.hit {w W : World} {g c : Nat} {gn c1 : Nat} {A1 : Option Addr} {gc c3 : Nat} {A3 : Option Addr} (h : I9c w g c exE gn A1 c1 gc A3 c3 W) : I9c w g c exT gn A1 c1 gc A3 c3 (W.setCell ⟨g, 100, none⟩ (.int .u8 1)) := by
  have hb := h.j.i.own.gb
  have ho := (OnlyB.refl g W).set 100 (.int .u8 1)
  have n1 := h.j.ne
  have n2 := h.ne
  have c1 := (Bs.nil (W.setCell ⟨g, 100, none⟩ (.int .u8 1)) A1 c1 (by have := h.j.b.cap; omega))
  have c3 := (Bs.nil (W.setCell ⟨g, 100, none⟩ (.int .u8 1)) A3 c3 (by have := h.b.cap; omega))
  exact ⟨⟨⟨below_set _ h.j.i.bel (by omega), (ho.block _ (Array.getElem?_eq_some_iff.1 h.j.i.row).1 (by omega)).trans h.j.i.row, h.j.i.own.store 100 1⟩, (ho.block _ (Array.getElem?_eq_some_iff.1 h.j.row).1 (by omega)).trans h.j.row, c1, n1⟩, (ho.block _ (Array.getElem?_eq_some_iff.1 h.row).1 (by omega)).trans h.row, c3, n2⟩
end Go.Proofs.Ythhalmjapiempaa

set_option linter.unusedVariables false
set_option linter.unusedSimpArgs false
namespace Go.Proofs.Ythhalmjapiempaa
open Go.RowKit

theorem chAt_congr {d1 t1 t1' d2 t2 t2' : Int} (h1 : d1 = 0 → t1 = t1') (h2 : d2 = 0 → t2 = t2') : chAt d1 t1 d2 t2 = chAt d1 t1' d2 t2' := by
  unfold chAt
  (repeat' split) <;> omega
theorem ch_eq (xs ys : List UInt8) : chAt (decE xs) (rdTx xs) (decE ys) (rdTx ys) = chAt (refE xs) (rfN xs 0) (refE ys) (rfN ys 0) := by
  rw [dec_ref xs, dec_ref ys]
  exact chAt_congr (fun h => (rd_rf h).2.2.2.1) (fun h => (rd_rf h).2.2.2.1)
theorem ch_cases (a b c d : Int) : chAt a b c d = -1 ∨ chAt a b c d = 0 ∨ chAt a b c d = 1 := by
  unfold chAt
  split
  · exact .inr (.inr rfl)
  · split
    · exact .inr (.inl rfl)
    · exact .inl rfl
theorem chE_eq (xs ys : List UInt8) : chE (decE xs) (decE ys) = chE (refE xs) (refE ys) := by rw [dec_ref, dec_ref]
theorem msame_refl (ge ph tg tx rt pg li : Int) (xs : List UInt8) : msameB ge ph tg tx rt pg li xs ge ph tg tx rt pg li xs = true := decide_eq_true ⟨rfl, rfl, rfl, rfl, rfl, rfl, rfl, rfl⟩
theorem mch_none (A : Option Addr) (n c : Nat) (xs : List UInt8) (B : Option Addr) (m d : Nat) (ys : List UInt8) (w : World) (hx : Bs w A n c xs) (hy : Bs w B m d ys) {E : Int} (hE : chE (refE xs) (refE ys) = E) (h : chAt (refE xs) (rfN xs 0) (refE ys) (rfN ys 0) = -1) :
    Calls Try.prog 48 #[.slice A n c, .slice B m d] w fun e w' => Below w.heap.size w w' ∧ e = .returned (.tuple #[.agg #[.int .i64 0, .int .i64 0, .int .i64 0, .int .i64 0, .int .i64 0, .int .i64 0, .int .i64 0, .slice none 0 0], .int .i64 (-1), .int .i64 E]) := by
  refine (mchoose_any A n c xs B m d ys w hx hy).mono ?_
  rintro e w' ⟨hB, hc⟩
  rw [ch_eq, chE_eq, hE, h] at hc
  rcases hc with ⟨_, rfl⟩ | ⟨k, _⟩ | ⟨k, _⟩
  · exact ⟨hB, rfl⟩
  · omega
  · omega
theorem rch_none (A : Option Addr) (n c : Nat) (xs : List UInt8) (B : Option Addr) (m d : Nat) (ys : List UInt8) (w : World) (hx : Bs w A n c xs) (hy : Bs w B m d ys) {E : Int} (hE : chE (refE xs) (refE ys) = E) (h : chAt (refE xs) (rfN xs 0) (refE ys) (rfN ys 0) = -1) :
    Calls Try.prog 60 #[.slice A n c, .slice B m d] w fun e w' => Below w.heap.size w w' ∧ e = .returned (.tuple #[.agg #[.int .i64 0, .int .i64 0, .int .i64 0, .int .i64 0, .int .i64 0, .int .i64 0, .int .i64 0, .slice none 0 0], .int .i64 (-1), .int .i64 E]) := by
  refine (rchoose_any A n c xs B m d ys w hx hy).mono ?_
  rintro e w' ⟨hB, hc⟩
  rw [hE, h] at hc
  rcases hc with ⟨_, rfl⟩ | ⟨k, _⟩ | ⟨k, _⟩
  · exact ⟨hB, rfl⟩
  · omega
  · omega
theorem mch_left (A : Option Addr) (n c : Nat) (xs : List UInt8) (B : Option Addr) (m d : Nat) (ys : List UInt8) (w : World) (hx : Bs w A n c xs) (hy : Bs w B m d ys) (h : chAt (refE xs) (rfN xs 0) (refE ys) (rfN ys 0) = 0) (h0 : refE xs = 0) :
    Calls Try.prog 48 #[.slice A n c, .slice B m d] w fun e w' => Below w.heap.size w w' ∧ ∃ A1 c1, e = .returned (.tuple #[.agg #[.int .i64 (b8 xs 4), .int .i64 (b8 xs 5), .int .i64 (b8 xs 6), .int .i64 (rfN xs 0), .int .i64 (rfN xs 1), .int .i64 (rfN xs 2), .int .i64 (rfN xs 3), .slice A1 (rfCu xs).length c1], .int .i64 0, .int .i64 0]) ∧ Bs w' A1 (rfCu xs).length c1 (rfCu xs) := by
  refine (mchoose_any A n c xs B m d ys w hx hy).mono ?_
  rintro e w' ⟨hB, hc⟩
  rw [ch_eq, h] at hc
  obtain ⟨f1, f2, f3, f4, f5, f6, f7, f8⟩ := rd_rf h0
  rcases hc with ⟨k, _⟩ | ⟨k, A1, c1, rfl, hb⟩ | ⟨k, A1, c1, rfl, hb⟩
  · omega
  · rw [f8] at hb
    rw [f1, f2, f3, f4, f5, f6, f7, f8]
    exact ⟨hB, A1, c1, rfl, hb⟩
  · omega
theorem rch_left (A : Option Addr) (n c : Nat) (xs : List UInt8) (B : Option Addr) (m d : Nat) (ys : List UInt8) (w : World) (hx : Bs w A n c xs) (hy : Bs w B m d ys) (h : chAt (refE xs) (rfN xs 0) (refE ys) (rfN ys 0) = 0) :
    Calls Try.prog 60 #[.slice A n c, .slice B m d] w fun e w' => Below w.heap.size w w' ∧ refE xs = 0 ∧ e = .returned (.tuple #[.agg #[.int .i64 (b8 xs 4), .int .i64 (b8 xs 5), .int .i64 (b8 xs 6), .int .i64 (rfN xs 0), .int .i64 (rfN xs 1), .int .i64 (rfN xs 2), .int .i64 (rfN xs 3), .slice (rfA A c xs) (rfCu xs).length (rfC c xs)], .int .i64 0, .int .i64 0]) := by
  refine (rchoose_any A n c xs B m d ys w hx hy).mono ?_
  rintro e w' ⟨hB, hc⟩
  rw [h] at hc
  rcases hc with ⟨k, _⟩ | ⟨k, h0, rfl⟩ | ⟨k, h0, rfl⟩
  · omega
  · exact ⟨hB, h0, rfl⟩
  · omega
theorem mch_right (A : Option Addr) (n c : Nat) (xs : List UInt8) (B : Option Addr) (m d : Nat) (ys : List UInt8) (w : World) (hx : Bs w A n c xs) (hy : Bs w B m d ys) (h : chAt (refE xs) (rfN xs 0) (refE ys) (rfN ys 0) = 1) (h0 : refE ys = 0) :
    Calls Try.prog 48 #[.slice A n c, .slice B m d] w fun e w' => Below w.heap.size w w' ∧ ∃ A1 c1, e = .returned (.tuple #[.agg #[.int .i64 (b8 ys 4), .int .i64 (b8 ys 5), .int .i64 (b8 ys 6), .int .i64 (rfN ys 0), .int .i64 (rfN ys 1), .int .i64 (rfN ys 2), .int .i64 (rfN ys 3), .slice A1 (rfCu ys).length c1], .int .i64 1, .int .i64 0]) ∧ Bs w' A1 (rfCu ys).length c1 (rfCu ys) := by
  refine (mchoose_any A n c xs B m d ys w hx hy).mono ?_
  rintro e w' ⟨hB, hc⟩
  rw [ch_eq, h] at hc
  obtain ⟨f1, f2, f3, f4, f5, f6, f7, f8⟩ := rd_rf h0
  rcases hc with ⟨k, _⟩ | ⟨k, A1, c1, rfl, hb⟩ | ⟨k, A1, c1, rfl, hb⟩
  · omega
  · omega
  · rw [f8] at hb
    rw [f1, f2, f3, f4, f5, f6, f7, f8]
    exact ⟨hB, A1, c1, rfl, hb⟩
theorem rch_right (A : Option Addr) (n c : Nat) (xs : List UInt8) (B : Option Addr) (m d : Nat) (ys : List UInt8) (w : World) (hx : Bs w A n c xs) (hy : Bs w B m d ys) (h : chAt (refE xs) (rfN xs 0) (refE ys) (rfN ys 0) = 1) :
    Calls Try.prog 60 #[.slice A n c, .slice B m d] w fun e w' => Below w.heap.size w w' ∧ refE ys = 0 ∧ e = .returned (.tuple #[.agg #[.int .i64 (b8 ys 4), .int .i64 (b8 ys 5), .int .i64 (b8 ys 6), .int .i64 (rfN ys 0), .int .i64 (rfN ys 1), .int .i64 (rfN ys 2), .int .i64 (rfN ys 3), .slice (rfA B d ys) (rfCu ys).length (rfC d ys)], .int .i64 1, .int .i64 0]) := by
  refine (rchoose_any A n c xs B m d ys w hx hy).mono ?_
  rintro e w' ⟨hB, hc⟩
  rw [h] at hc
  rcases hc with ⟨k, _⟩ | ⟨k, h0, rfl⟩ | ⟨k, h0, rfl⟩
  · omega
  · omega
  · exact ⟨hB, h0, rfl⟩
theorem ch_left {xs ys : List UInt8} (h : chAt (refE xs) (rfN xs 0) (refE ys) (rfN ys 0) = 0) : refE xs = 0 := by
  unfold chAt at h
  split at h
  · omega
  · split at h
    · rename_i k
      exact k.1
    · omega
theorem ch_right {xs ys : List UInt8} (h : chAt (refE xs) (rfN xs 0) (refE ys) (rfN ys 0) = 1) : refE ys = 0 := by
  unfold chAt at h
  split at h
  · rename_i k
    exact k.1
  · split at h <;> omega

/-- Two metas, one of either kind, in their boxes. -/
structure T2 (w : World) (gm : Nat) (u : Array Value) (gn : Nat) (v : Array Value) (W : World) : Prop where
  bel : Below w.heap.size w W
  ra : W.heap[gm]? = some (.cells u 36)
  rb : W.heap[gn]? = some (.cells v 24)
theorem T2.step {w W W1 : World} {gm gn : Nat} {u v : Array Value} (h : T2 w gm u gn v W) (hB : Below W.heap.size W W1) : T2 w gm u gn v W1 :=
  ⟨below_then h.bel h.bel.size hB, (hB.block _ (Array.getElem?_eq_some_iff.1 h.ra).1).trans h.ra, (hB.block _ (Array.getElem?_eq_some_iff.1 h.rb).1).trans h.rb⟩
end Go.Proofs.Ythhalmjapiempaa

set_option linter.unusedVariables false
set_option linter.unusedSimpArgs false
namespace Go.Proofs.Ythhalmjapiempaa
open Go.RowKit

theorem menc_ok (ge ph tg tx rt pg li : Int) (A : Option Addr) (n c : Nat) (xs : List UInt8) (w : World) (hb : Bs w A n c xs) (h : mrightB ge ph tg tx rt pg li n = true) :
    Calls Try.prog 43 #[.agg #[.int .i64 ge, .int .i64 ph, .int .i64 tg, .int .i64 tx, .int .i64 rt, .int .i64 pg, .int .i64 li, .slice A n c]] w fun e w' => Below w.heap.size w w' ∧ ∃ A1 c1, e = .returned (.tuple #[.slice A1 256 c1, .int .i64 0]) ∧ Ow w' w.heap.size A1 256 c1 (encR ge ph tg tx rt pg li xs) := by
  obtain rfl := hb.len
  refine (mencode_any ge ph tg tx rt pg li A _ c xs w hb).mono ?_
  rintro e w' ⟨hB, ⟨k, _⟩ | ⟨_, A2, c2, rfl, hO⟩⟩
  · rw [h] at k
    exact Bool.noConfusion k
  · rw [enc_eq h, (encR_read h).1] at hO ⊢
    exact ⟨hB, A2, c2, rfl, hO⟩
theorem menc_no (ge ph tg tx rt pg li : Int) (A : Option Addr) (n c : Nat) (xs : List UInt8) (w : World) (hb : Bs w A n c xs) (h : mrightB ge ph tg tx rt pg li n = false) :
    Calls Try.prog 43 #[.agg #[.int .i64 ge, .int .i64 ph, .int .i64 tg, .int .i64 tx, .int .i64 rt, .int .i64 pg, .int .i64 li, .slice A n c]] w fun e w' => Below w.heap.size w w' ∧ e = .returned (.tuple #[.slice none 0 0, .int .i64 92]) := by
  refine (mencode_any ge ph tg tx rt pg li A n c xs w hb).mono ?_
  rintro e w' ⟨hB, ⟨_, rfl⟩ | ⟨k, _⟩⟩
  · exact ⟨hB, rfl⟩
  · rw [h] at k
    exact Bool.noConfusion k
theorem renc_ok (ge ph tg tx rt pg li : Int) (A : Option Addr) (n c : Nat) (xs : List UInt8) (w : World) (hb : Bs w A n c xs) (h : mrightB ge ph tg tx rt pg li n = true) :
    Calls Try.prog 57 #[.agg #[.int .i64 ge, .int .i64 ph, .int .i64 tg, .int .i64 tx, .int .i64 rt, .int .i64 pg, .int .i64 li, .slice A n c]] w fun e w' => Below w.heap.size w w' ∧ ∃ A1 c1, e = .returned (.tuple #[.slice A1 256 c1, .int .i64 0]) ∧ Ow w' w.heap.size A1 256 c1 (encR ge ph tg tx rt pg li xs) := by
  obtain rfl := hb.len
  refine (rencode_any ge ph tg tx rt pg li A _ c xs w hb).mono ?_
  rintro e w' ⟨hB, ⟨k, _⟩ | ⟨_, A2, c2, rfl, hO⟩⟩
  · rw [h] at k
    exact Bool.noConfusion k
  · rw [(encR_read h).1] at hO ⊢
    exact ⟨hB, A2, c2, rfl, hO⟩
theorem renc_no (ge ph tg tx rt pg li : Int) (A : Option Addr) (n c : Nat) (xs : List UInt8) (w : World) (hb : Bs w A n c xs) (h : mrightB ge ph tg tx rt pg li n = false) :
    Calls Try.prog 57 #[.agg #[.int .i64 ge, .int .i64 ph, .int .i64 tg, .int .i64 tx, .int .i64 rt, .int .i64 pg, .int .i64 li, .slice A n c]] w fun e w' => Below w.heap.size w w' ∧ e = .returned (.tuple #[.slice none 0 0, .int .i64 92]) := by
  refine (rencode_any ge ph tg tx rt pg li A n c xs w hb).mono ?_
  rintro e w' ⟨hB, ⟨_, rfl⟩ | ⟨k, _⟩⟩
  · exact ⟨hB, rfl⟩
  · rw [h] at k
    exact Bool.noConfusion k
/-- What was written is read. -/
theorem mdec_enc (ge ph tg tx rt pg li : Int) (xs : List UInt8) (A : Option Addr) (c : Nat) (w : World) (hb : Bs w A 256 c (encR ge ph tg tx rt pg li xs)) (h : mrightB ge ph tg tx rt pg li xs.length = true) :
    Calls Try.prog 77 #[.slice A 256 c] w fun e w' => Below w.heap.size w w' ∧ ∃ A3 c3, e = .returned (.tuple #[.agg #[.int .i64 ge, .int .i64 ph, .int .i64 tg, .int .i64 tx, .int .i64 rt, .int .i64 pg, .int .i64 li, .slice A3 xs.length c3], .int .i64 0]) ∧ Ow w' w.heap.size A3 xs.length c3 xs := by
  obtain ⟨_, a1, a2, a3, a4, a5, a6, a7, a8, a9⟩ := encR_read h
  obtain ⟨f1, f2, f3, f4, f5, f6, f7, f8⟩ := rd_rf a9
  refine (mdecode_any A 256 c _ w hb).mono ?_
  rintro e w' ⟨hB, ⟨k, _⟩ | ⟨k, A1, c1, rfl, hO⟩⟩
  · exact absurd ((dec_ref _).trans a9) k
  · rw [f8, a8] at hO
    rw [f1, f2, f3, f4, f5, f6, f7, f8, a1, a2, a3, a4, a5, a6, a7, a8]
    exact ⟨hB, A1, c1, rfl, hO⟩
/-- A meta, and the program's copy of it, in their boxes. -/
theorem T2.start (w : World) (u v : Array Value) : T2 w (w.heap.size + 1) u w.heap.size v ((w.alloc (.cells v 24)).alloc (.cells u 36)) :=
  ⟨((Below.refl _ w).alloc (Nat.le_refl _) _).alloc (by simp) _, by have := heap_alloc_new (w.alloc (.cells v 24)) (.cells u 36); simpa using this, (Below.heap_alloc _ _ _ (by simp)).trans (heap_alloc_new w _)⟩
end Go.Proofs.Ythhalmjapiempaa

set_option linter.unusedVariables false
set_option linter.unusedSimpArgs false
namespace Go.Proofs.Ythhalmjapiempaa
open Go.RowKit

/-- What stands: boxes, and slices of bytes. -/
structure H9 (w : World) (L : List (Nat × Array Value × TypeId)) (B : List (Option Addr × Nat × Nat × List UInt8)) (W : World) : Prop where
  bel : Below w.heap.size w W
  rows : ∀ p, p ∈ L → W.heap[p.1]? = some (.cells p.2.1 p.2.2)
  bs : ∀ q, q ∈ B → Bs W q.1 q.2.1 q.2.2.1 q.2.2.2
theorem H9.step {w W W1 : World} {L : List (Nat × Array Value × TypeId)} {B : List (Option Addr × Nat × Nat × List UInt8)} (h : H9 w L B W) (hB : Below W.heap.size W W1) : H9 w L B W1 :=
  ⟨below_then h.bel h.bel.size hB, fun p hp => (hB.block _ (Array.getElem?_eq_some_iff.1 (h.rows p hp)).1).trans (h.rows p hp), fun q hq => (h.bs q hq).below hB⟩
theorem H9.add {w W : World} {L : List (Nat × Array Value × TypeId)} {B : List (Option Addr × Nat × Nat × List UInt8)} (h : H9 w L B W) (u : Array Value) (T : TypeId) : H9 w ((W.heap.size, u, T) :: L) B (W.alloc (.cells u T)) := by
  have k := h.step ((Below.refl _ W).alloc (Nat.le_refl _) (.cells u T))
  refine ⟨k.bel, fun p hp => ?_, k.bs⟩
  rcases List.mem_cons.1 hp with rfl | hp
  · exact heap_alloc_new W _
  · exact k.rows p hp
theorem H9.byt {w W : World} {L : List (Nat × Array Value × TypeId)} {B : List (Option Addr × Nat × Nat × List UInt8)} (h : H9 w L B W) {A : Option Addr} {n c : Nat} {xs : List UInt8} (hb : Bs W A n c xs) : H9 w L ((A, n, c, xs) :: B) W :=
  ⟨h.bel, h.rows, fun q hq => by
    rcases List.mem_cons.1 hq with rfl | hq
    · exact hb
    · exact h.bs q hq⟩
theorem H9.start (w : World) : H9 w [] [] w := ⟨Below.refl _ _, fun _ h => absurd h List.not_mem_nil, fun _ h => absurd h List.not_mem_nil⟩
/-- Of two metas' bytes, and of nothing, which is chosen. -/
theorem encR_ch {ge ph tg tx rt pg li : Int} {xs : List UInt8} (h : mrightB ge ph tg tx rt pg li xs.length = true) : refE (encR ge ph tg tx rt pg li xs) = 0 ∧ rfN (encR ge ph tg tx rt pg li xs) 0 = tx := ⟨(encR_read h).2.2.2.2.2.2.2.2.2, (encR_read h).2.2.2.2.1⟩
theorem ref_nil : refE [] = 90 := by rw [← dec_ref]; exact dec_nil
theorem ch_l (ge ph tg tx rt pg li : Int) (xs zs : List UInt8) (A : Option Addr) (c : Nat) (B : Option Addr) (m d : Nat) (w : World) (hx : Bs w A 256 c (encR ge ph tg tx rt pg li xs)) (hy : Bs w B m d zs) (hR : mrightB ge ph tg tx rt pg li xs.length = true)
    (h : chAt 0 tx (refE zs) (rfN zs 0) = 0) :
    Calls Try.prog 48 #[.slice A 256 c, .slice B m d] w fun e w' => Below w.heap.size w w' ∧ ∃ A1 c1, e = .returned (.tuple #[.agg #[.int .i64 ge, .int .i64 ph, .int .i64 tg, .int .i64 tx, .int .i64 rt, .int .i64 pg, .int .i64 li, .slice A1 xs.length c1], .int .i64 0, .int .i64 0]) ∧ Bs w' A1 xs.length c1 xs := by
  obtain ⟨_, a1, a2, a3, a4, a5, a6, a7, a8, a9⟩ := encR_read hR
  have hh := mch_left A 256 c _ B m d zs w hx hy (by rw [a9, a4]; exact h) a9
  rw [a1, a2, a3, a4, a5, a6, a7, a8] at hh
  exact hh
theorem ch_r (ge ph tg tx rt pg li : Int) (xs zs : List UInt8) (A : Option Addr) (c : Nat) (B : Option Addr) (m d : Nat) (w : World) (hx : Bs w A 256 c (encR ge ph tg tx rt pg li xs)) (hy : Bs w B m d zs) (hR : mrightB ge ph tg tx rt pg li xs.length = true)
    (h : chAt (refE zs) (rfN zs 0) 0 tx = 1) :
    Calls Try.prog 48 #[.slice B m d, .slice A 256 c] w fun e w' => Below w.heap.size w w' ∧ ∃ A1 c1, e = .returned (.tuple #[.agg #[.int .i64 ge, .int .i64 ph, .int .i64 tg, .int .i64 tx, .int .i64 rt, .int .i64 pg, .int .i64 li, .slice A1 xs.length c1], .int .i64 1, .int .i64 0]) ∧ Bs w' A1 xs.length c1 xs := by
  obtain ⟨_, a1, a2, a3, a4, a5, a6, a7, a8, a9⟩ := encR_read hR
  have hh := mch_right B m d zs A 256 c _ w hy hx (by rw [a9, a4]; exact h) a9
  rw [a1, a2, a3, a4, a5, a6, a7, a8] at hh
  exact hh
end Go.Proofs.Ythhalmjapiempaa
