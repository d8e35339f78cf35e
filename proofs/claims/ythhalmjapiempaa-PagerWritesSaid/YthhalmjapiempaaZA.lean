/- The walk of meta's Choose. The walk of regaugeref09's Choose. -/
import Derived.Test.YthhalmjapiempaaZ9
set_option linter.unusedVariables false
set_option linter.unusedSimpArgs false
namespace Go.Proofs.Ythhalmjapiempaa
open Go.RowKit

/-- Which of two is chosen, by why there is none, and by the transactions' numbers. -/
def chAt (d1 t1 d2 t2 : Int) : Int := if d2 = 0 ∧ t2 % 2 = 1 ∧ (d1 = 0 ∧ t1 % 2 = 0 → t1 < t2) then 1 else if d1 = 0 ∧ t1 % 2 = 0 then 0 else -1
def chE (d1 d2 : Int) : Int := if d1 = 93 ∨ d2 = 93 then 93 else 92
def ch1 (d1 t1 : Int) : Int := if d1 = 0 ∧ t1 % 2 = 0 then 0 else -1
def chN (d : Int) : Int := if d = 93 then 93 else 92
/-- The best one in its box, and the result's. -/
structure QB (w : World) (u : Array Value) (W : World) : Prop where
  bel : Below w.heap.size w W
  res : W.heap[w.heap.size]? = some (.cells #[.int .i64 0, .int .i64 0, .int .i64 0, .int .i64 0, .int .i64 0, .int .i64 0, .int .i64 0, .slice none 0 0] 36)
  row : W.heap[w.heap.size + 1]? = some (.cells u 36)
theorem QB.step {w W W1 : World} {u : Array Value} (h : QB w u W) (hB : Below W.heap.size W W1) : QB w u W1 :=
  ⟨below_then h.bel h.bel.size hB, (hB.block _ (Array.getElem?_eq_some_iff.1 h.res).1).trans h.res, (hB.block _ (Array.getElem?_eq_some_iff.1 h.row).1).trans h.row⟩
theorem QB.set8 {w W : World} {x0 x1 x2 x3 x4 x5 x6 x7 : Value} (h : QB w #[x0, x1, x2, x3, x4, x5, x6, x7] W) (v0 v1 v2 v3 v4 v5 v6 v7 : Value) :
    QB w #[v0, v1, v2, v3, v4, v5, v6, v7] ((((((((W.setCell ⟨w.heap.size + 1, 0, none⟩ v0).setCell ⟨w.heap.size + 1, 1, none⟩ v1).setCell ⟨w.heap.size + 1, 2, none⟩ v2).setCell ⟨w.heap.size + 1, 3, none⟩ v3).setCell ⟨w.heap.size + 1, 4, none⟩ v4).setCell ⟨w.heap.size + 1, 5, none⟩ v5).setCell ⟨w.heap.size + 1, 6, none⟩ v6).setCell ⟨w.heap.size + 1, 7, none⟩ v7) :=
  ⟨below_set8 v0 v1 v2 v3 v4 v5 v6 v7 h.bel (Nat.le_succ _), ((only_set8 v0 v1 v2 v3 v4 v5 v6 v7).block _ (Array.getElem?_eq_some_iff.1 h.res).1 (by omega)).trans h.res, row8_set v0 v1 v2 v3 v4 v5 v6 v7 h.row⟩

structure CHR (w : World) (xs ys : List UInt8) (at_ : Int) (u : Array Value) (W : World) : Prop where
  q : QB w u W
  c : (at_ = -1 ∧ u = #[.int .i64 0, .int .i64 0, .int .i64 0, .int .i64 0, .int .i64 0, .int .i64 0, .int .i64 0, .slice none 0 0]) ∨ (at_ = 0 ∧ decE xs = 0 ∧ ∃ A1 c1, u = #[.int .i64 (rdGe xs), .int .i64 (rdPh xs), .int .i64 (rdTg xs), .int .i64 (rdTx xs), .int .i64 (rdRt xs), .int .i64 (rdPg xs), .int .i64 (rdLi xs), .slice A1 (rdCu xs).length c1] ∧ Ow W (w.heap.size + 2) A1 (rdCu xs).length c1 (rdCu xs)) ∨ (at_ = 1 ∧ decE ys = 0 ∧ ∃ A1 c1, u = #[.int .i64 (rdGe ys), .int .i64 (rdPh ys), .int .i64 (rdTg ys), .int .i64 (rdTx ys), .int .i64 (rdRt ys), .int .i64 (rdPg ys), .int .i64 (rdLi ys), .slice A1 (rdCu ys).length c1] ∧ Ow W (w.heap.size + 2) A1 (rdCu ys).length c1 (rdCu ys))
theorem CHR.step {w W W1 : World} {xs ys : List UInt8} {at_ : Int} {u : Array Value} (h : CHR w xs ys at_ u W) (hB : Below W.heap.size W W1) : CHR w xs ys at_ u W1 :=
  ⟨h.1.step hB, h.2.imp id (Or.imp (fun ⟨a, b, A1, c1, e, k⟩ => ⟨a, b, A1, c1, e, k.below hB⟩) (fun ⟨a, b, A1, c1, e, k⟩ => ⟨a, b, A1, c1, e, k.below hB⟩))⟩
theorem CHR.zeros {w W : World} {xs ys : List UInt8} {at_ : Int} {u : Array Value} (h : CHR w xs ys at_ u W) (e : at_ = -1) : u = #[.int .i64 0, .int .i64 0, .int .i64 0, .int .i64 0, .int .i64 0, .int .i64 0, .int .i64 0, .slice none 0 0] := by
  rcases h.2 with ⟨_, h⟩ | ⟨h, _⟩ | ⟨h, _⟩
  · exact h
  · omega
  · omega
theorem CHR.take0 {w W : World} {xs ys : List UInt8} {at_ : Int} {x0 x1 x2 x3 x4 x5 x6 x7 : Value} {A1 : Option Addr} {c1 : Nat} (h : CHR w xs ys at_ #[x0, x1, x2, x3, x4, x5, x6, x7] W) (h0 : decE xs = 0) (hO : Ow W (w.heap.size + 2) A1 (rdCu xs).length c1 (rdCu xs)) :
    CHR w xs ys 0 #[.int .i64 (rdGe xs), .int .i64 (rdPh xs), .int .i64 (rdTg xs), .int .i64 (rdTx xs), .int .i64 (rdRt xs), .int .i64 (rdPg xs), .int .i64 (rdLi xs), .slice A1 (rdCu xs).length c1] ((((((((W.setCell ⟨w.heap.size + 1, 0, none⟩ (.int .i64 (rdGe xs))).setCell ⟨w.heap.size + 1, 1, none⟩ (.int .i64 (rdPh xs))).setCell ⟨w.heap.size + 1, 2, none⟩ (.int .i64 (rdTg xs))).setCell ⟨w.heap.size + 1, 3, none⟩ (.int .i64 (rdTx xs))).setCell ⟨w.heap.size + 1, 4, none⟩ (.int .i64 (rdRt xs))).setCell ⟨w.heap.size + 1, 5, none⟩ (.int .i64 (rdPg xs))).setCell ⟨w.heap.size + 1, 6, none⟩ (.int .i64 (rdLi xs))).setCell ⟨w.heap.size + 1, 7, none⟩ (.slice A1 (rdCu xs).length c1)) :=
  ⟨h.1.set8 (.int .i64 (rdGe xs)) (.int .i64 (rdPh xs)) (.int .i64 (rdTg xs)) (.int .i64 (rdTx xs)) (.int .i64 (rdRt xs)) (.int .i64 (rdPg xs)) (.int .i64 (rdLi xs)) (.slice A1 (rdCu xs).length c1), .inr (.inl ⟨rfl, h0, A1, c1, rfl, hO.only_lo (only_set8 (.int .i64 (rdGe xs)) (.int .i64 (rdPh xs)) (.int .i64 (rdTg xs)) (.int .i64 (rdTx xs)) (.int .i64 (rdRt xs)) (.int .i64 (rdPg xs)) (.int .i64 (rdLi xs)) (.slice A1 (rdCu xs).length c1)) (Nat.lt_succ_self _)⟩)⟩
theorem CHR.take1 {w W : World} {xs ys : List UInt8} {at_ : Int} {x0 x1 x2 x3 x4 x5 x6 x7 : Value} {A1 : Option Addr} {c1 : Nat} (h : CHR w xs ys at_ #[x0, x1, x2, x3, x4, x5, x6, x7] W) (h0 : decE ys = 0) (hO : Ow W (w.heap.size + 2) A1 (rdCu ys).length c1 (rdCu ys)) :
    CHR w xs ys 1 #[.int .i64 (rdGe ys), .int .i64 (rdPh ys), .int .i64 (rdTg ys), .int .i64 (rdTx ys), .int .i64 (rdRt ys), .int .i64 (rdPg ys), .int .i64 (rdLi ys), .slice A1 (rdCu ys).length c1] ((((((((W.setCell ⟨w.heap.size + 1, 0, none⟩ (.int .i64 (rdGe ys))).setCell ⟨w.heap.size + 1, 1, none⟩ (.int .i64 (rdPh ys))).setCell ⟨w.heap.size + 1, 2, none⟩ (.int .i64 (rdTg ys))).setCell ⟨w.heap.size + 1, 3, none⟩ (.int .i64 (rdTx ys))).setCell ⟨w.heap.size + 1, 4, none⟩ (.int .i64 (rdRt ys))).setCell ⟨w.heap.size + 1, 5, none⟩ (.int .i64 (rdPg ys))).setCell ⟨w.heap.size + 1, 6, none⟩ (.int .i64 (rdLi ys))).setCell ⟨w.heap.size + 1, 7, none⟩ (.slice A1 (rdCu ys).length c1)) :=
  ⟨h.1.set8 (.int .i64 (rdGe ys)) (.int .i64 (rdPh ys)) (.int .i64 (rdTg ys)) (.int .i64 (rdTx ys)) (.int .i64 (rdRt ys)) (.int .i64 (rdPg ys)) (.int .i64 (rdLi ys)) (.slice A1 (rdCu ys).length c1), .inr (.inr ⟨rfl, h0, A1, c1, rfl, hO.only_lo (only_set8 (.int .i64 (rdGe ys)) (.int .i64 (rdPh ys)) (.int .i64 (rdTg ys)) (.int .i64 (rdTx ys)) (.int .i64 (rdRt ys)) (.int .i64 (rdPg ys)) (.int .i64 (rdLi ys)) (.slice A1 (rdCu ys).length c1)) (Nat.lt_succ_self _)⟩)⟩
theorem mff (W : World) (a b c d e f k i : Value) : (Instr.field 36 (.agg #[a, b, c, d, e, f, k, i]) 3).run Try.prog W = .ok d W := by kernel_rfl
theorem dec_tx {xs : List UInt8} (h : decE xs = 0) : 0 < rdTx xs := by
  unfold decE at h
  split at h
  · split at h
    · split at h
      · split at h
        · rename_i k
          have := right_bounds k.1
          omega
        · omega
      · omega
    · omega
  · omega

set_option maxHeartbeats 40000000 in
set_option maxRecDepth 100000 in
theorem mchoose_own (A : Option Addr) (n c : Nat) (xs : List UInt8) (B : Option Addr) (m d : Nat) (ys : List UInt8) (w : World) (hx : Bs w A n c xs) (hy : Bs w B m d ys) :
    Calls Try.prog 48 #[.slice A n c, .slice B m d] w fun e w' => Below w.heap.size w w' ∧ ((chAt (decE xs) (rdTx xs) (decE ys) (rdTx ys) = -1 ∧ e = .returned (.tuple #[.agg #[.int .i64 0, .int .i64 0, .int .i64 0, .int .i64 0, .int .i64 0, .int .i64 0, .int .i64 0, .slice none 0 0], .int .i64 (-1), .int .i64 (chE (decE xs) (decE ys))])) ∨ (chAt (decE xs) (rdTx xs) (decE ys) (rdTx ys) = 0 ∧ ∃ A1 c1, e = .returned (.tuple #[.agg #[.int .i64 (rdGe xs), .int .i64 (rdPh xs), .int .i64 (rdTg xs), .int .i64 (rdTx xs), .int .i64 (rdRt xs), .int .i64 (rdPg xs), .int .i64 (rdLi xs), .slice A1 (rdCu xs).length c1], .int .i64 0, .int .i64 0]) ∧ Ow w' w.heap.size A1 (rdCu xs).length c1 (rdCu xs)) ∨ (chAt (decE xs) (rdTx xs) (decE ys) (rdTx ys) = 1 ∧ ∃ A1 c1, e = .returned (.tuple #[.agg #[.int .i64 (rdGe ys), .int .i64 (rdPh ys), .int .i64 (rdTg ys), .int .i64 (rdTx ys), .int .i64 (rdRt ys), .int .i64 (rdPg ys), .int .i64 (rdLi ys), .slice A1 (rdCu ys).length c1], .int .i64 1, .int .i64 0]) ∧ Ow w' w.heap.size A1 (rdCu ys).length c1 (rdCu ys))) := by
  have HX := Aside0.mk hx
  have HY := Aside0.mk hy
  clear hx hy
  have HQ := Aside0.mk (show QB w #[.int .i64 0, .int .i64 0, .int .i64 0, .int .i64 0, .int .i64 0, .int .i64 0, .int .i64 0, .slice none 0 0] ((w.alloc (.cells #[.int .i64 0, .int .i64 0, .int .i64 0, .int .i64 0, .int .i64 0, .int .i64 0, .int .i64 0, .slice none 0 0] 36)).alloc (.cells #[.int .i64 0, .int .i64 0, .int .i64 0, .int .i64 0, .int .i64 0, .int .i64 0, .int .i64 0, .slice none 0 0] 36)) from ⟨((Below.refl _ w).alloc (Nat.le_refl _) _).alloc (by simp) _, (Below.heap_alloc _ _ _ (by simp)).trans (heap_alloc_new w _), by have := heap_alloc_new (w.alloc (.cells #[.int .i64 0, .int .i64 0, .int .i64 0, .int .i64 0, .int .i64 0, .int .i64 0, .int .i64 0, .slice none 0 0] 36)) (.cells #[.int .i64 0, .int .i64 0, .int .i64 0, .int .i64 0, .int .i64 0, .int .i64 0, .int .i64 0, .slice none 0 0] 36); simpa using this⟩)
  go_enter Try.func48, Try.ntmps48
  go_wp2_with fail
  have aix0 : ∀ W : World, (Instr.index 136 (.agg #[.slice A n c, .slice B m d]) (.int .i64 0)).run Try.prog W = .ok (.slice A n c) W := fun W => by kernel_rfl
  have aix1 : ∀ W : World, (Instr.index 136 (.agg #[.slice A n c, .slice B m d]) (.int .i64 1)).run Try.prog W = .ok (.slice B m d) W := fun W => by kernel_rfl
  have ff := fun W a b c d e f k i => mff W a b c d e f k i
  obtain ⟨W0, hW0⟩ : ∃ X, (w.alloc (.cells #[.int .i64 0, .int .i64 0, .int .i64 0, .int .i64 0, .int .i64 0, .int .i64 0, .int .i64 0, .slice none 0 0] 36)).alloc (.cells #[.int .i64 0, .int .i64 0, .int .i64 0, .int .i64 0, .int .i64 0, .int .i64 0, .int .i64 0, .slice none 0 0] 36) = X := ⟨_, rfl⟩
  rw [hW0] at HQ ⊢
  clear hW0
  go_loopg [8, 9, 17] 2 (fun k v8 v9 v17 wr => ∃ j : Nat, Aside (k + j = 2) ∧ v17 = .int .i64 (j : Int) ∧ ∃ (at_ no : Int) (u : Array Value), v8 = .int .i64 at_ ∧ v9 = .int .i64 no ∧ Aside0 (CHR w xs ys at_ u wr) ∧
    Aside0 ((j = 0 → at_ = -1 ∧ no = 92) ∧ (j = 1 → at_ = ch1 (decE xs) (rdTx xs) ∧ no = chN (decE xs)) ∧ (j = 2 → at_ = chAt (decE xs) (rdTx xs) (decE ys) (rdTx ys) ∧ no = chE (decE xs) (decE ys))))
  case atStart => exact ⟨0, rfl, rfl, -1, 92, #[.int .i64 0, .int .i64 0, .int .i64 0, .int .i64 0, .int .i64 0, .int .i64 0, .int .i64 0, .slice none 0 0], rfl, rfl, ⟨⟨HQ.out, .inl ⟨rfl, rfl⟩⟩⟩, ⟨⟨fun _ => ⟨rfl, rfl⟩, fun h => by omega, fun h => by omega⟩⟩⟩
  case round =>
    obtain ⟨j, hk, rfl, at_, no, u, rfl, rfl, hC, hV⟩ := hrel
    have hjb : j ≤ 2 := by have := hk.out; omega
    rcases (show j = 0 ∨ j = 1 ∨ j = 2 by omega) with rfl | rfl | rfl
    · obtain ⟨rfl, rfl⟩ := hV.out.1 rfl
      obtain rfl : u = #[.int .i64 0, .int .i64 0, .int .i64 0, .int .i64 0, .int .i64 0, .int .i64 0, .int .i64 0, .slice none 0 0] := hC.out.zeros rfl
      clear hV HQ hjb
      by_cases h0 : decE xs = 0
      · have q0 := dec_tx h0
        have h0 := Aside0.mk h0
        by_cases hp : rdTx xs % 2 = 0
        · have q2 : (rdTx xs % 2 == 0) = true := beq_iff_eq.2 hp
          have q4 : decide (0 < rdTx xs) = true := decide_eq_true q0
          go_wp2_with (first | (go_at_call 77; (with_reducible refine (mdecode_any A n c xs wr (HX.out.below hC.out.1.bel)).mono ?_); rintro e w3 ⟨hB3, hc⟩; (have H3 := Aside0.mk (hC.out.step hB3)); clear hB3; (have hc := hc.resolve_left (fun k => k.1 h0.out)); (obtain ⟨_, A1, c1, rfl, hO1⟩ := hc); (have H6 := Aside0.mk (H3.out.step ((Below.refl _ w3).alloc (Nat.le_refl _) (.cells #[.int .i64 (rdGe xs), .int .i64 (rdPh xs), .int .i64 (rdTg xs), .int .i64 (rdTx xs), .int .i64 (rdRt xs), .int .i64 (rdPg xs), .int .i64 (rdLi xs), .slice A1 (rdCu xs).length c1] 36)))); (have HR6 := Aside0.mk (heap_alloc_new w3 (.cells #[.int .i64 (rdGe xs), .int .i64 (rdPh xs), .int .i64 (rdTg xs), .int .i64 (rdTx xs), .int .i64 (rdRt xs), .int .i64 (rdPg xs), .int .i64 (rdLi xs), .slice A1 (rdCu xs).length c1] 36))); (have HO6 := Aside0.mk (hO1.alloc (.cells #[.int .i64 (rdGe xs), .int .i64 (rdPh xs), .int .i64 (rdTg xs), .int .i64 (rdTx xs), .int .i64 (rdRt xs), .int .i64 (rdPg xs), .int .i64 (rdLi xs), .slice A1 (rdCu xs).length c1] 36))); clear hO1; (obtain ⟨w6, hw6⟩ : ∃ X, w3.alloc (.cells #[.int .i64 (rdGe xs), .int .i64 (rdPh xs), .int .i64 (rdTg xs), .int .i64 (rdTx xs), .int .i64 (rdRt xs), .int .i64 (rdPg xs), .int .i64 (rdLi xs), .slice A1 (rdCu xs).length c1] 36) = X := ⟨_, rfl⟩); rw [hw6] at H6 HR6 HO6; (obtain ⟨z0, z1, z2, z3, z4, z5, z6, z7⟩ := row8_cells HR6.out); (obtain ⟨x0, x1, x2, x3, x4, x5, x6, x7⟩ := row8_cells H6.out.1.row); (have xf := fun j => Go.Joins.unfrozen_of_block H6.out.1.row j)) | (go_at_call 44; (with_reducible refine (slot_any (rdTx xs) w6).mono ?_); rintro e w7 ⟨rfl, rfl⟩))
          go_roundg 1
          case measure => have := hk.out; omega
          case rel =>
            refine ⟨1, rfl, rfl, 0, 92, #[.int .i64 (rdGe xs), .int .i64 (rdPh xs), .int .i64 (rdTg xs), .int .i64 (rdTx xs), .int .i64 (rdRt xs), .int .i64 (rdPg xs), .int .i64 (rdLi xs), .slice A1 (rdCu xs).length c1], rfl, rfl, ⟨H6.out.take0 h0.out (HO6.out.mono (by have := (Array.getElem?_eq_some_iff.1 hC.out.1.row).1; omega))⟩, ⟨⟨fun h => by omega, fun _ => ?_, fun h => by omega⟩⟩⟩
            have h1 := h0.out
            unfold ch1 chN
            exact ⟨by split <;> omega, by split <;> omega⟩
        · have q2 : (rdTx xs % 2 == 0) = false := beq_eq_false_iff_ne.2 hp
          go_wp2_with (first | (go_at_call 77; (with_reducible refine (mdecode_any A n c xs wr (HX.out.below hC.out.1.bel)).mono ?_); rintro e w3 ⟨hB3, hc⟩; (have H3 := Aside0.mk (hC.out.step hB3)); clear hB3; (have hc := hc.resolve_left (fun k => k.1 h0.out)); (obtain ⟨_, A1, c1, rfl, hO1⟩ := hc); (have H6 := Aside0.mk (H3.out.step ((Below.refl _ w3).alloc (Nat.le_refl _) (.cells #[.int .i64 (rdGe xs), .int .i64 (rdPh xs), .int .i64 (rdTg xs), .int .i64 (rdTx xs), .int .i64 (rdRt xs), .int .i64 (rdPg xs), .int .i64 (rdLi xs), .slice A1 (rdCu xs).length c1] 36)))); (have HR6 := Aside0.mk (heap_alloc_new w3 (.cells #[.int .i64 (rdGe xs), .int .i64 (rdPh xs), .int .i64 (rdTg xs), .int .i64 (rdTx xs), .int .i64 (rdRt xs), .int .i64 (rdPg xs), .int .i64 (rdLi xs), .slice A1 (rdCu xs).length c1] 36))); (have HO6 := Aside0.mk (hO1.alloc (.cells #[.int .i64 (rdGe xs), .int .i64 (rdPh xs), .int .i64 (rdTg xs), .int .i64 (rdTx xs), .int .i64 (rdRt xs), .int .i64 (rdPg xs), .int .i64 (rdLi xs), .slice A1 (rdCu xs).length c1] 36))); clear hO1; (obtain ⟨w6, hw6⟩ : ∃ X, w3.alloc (.cells #[.int .i64 (rdGe xs), .int .i64 (rdPh xs), .int .i64 (rdTg xs), .int .i64 (rdTx xs), .int .i64 (rdRt xs), .int .i64 (rdPg xs), .int .i64 (rdLi xs), .slice A1 (rdCu xs).length c1] 36) = X := ⟨_, rfl⟩); rw [hw6] at H6 HR6 HO6; (obtain ⟨z0, z1, z2, z3, z4, z5, z6, z7⟩ := row8_cells HR6.out); (obtain ⟨x0, x1, x2, x3, x4, x5, x6, x7⟩ := row8_cells H6.out.1.row); (have xf := fun j => Go.Joins.unfrozen_of_block H6.out.1.row j)) | (go_at_call 44; (with_reducible refine (slot_any (rdTx xs) w6).mono ?_); rintro e w7 ⟨rfl, rfl⟩))
          go_roundg 1
          case measure => have := hk.out; omega
          case rel =>
            refine ⟨1, rfl, rfl, -1, 92, #[.int .i64 0, .int .i64 0, .int .i64 0, .int .i64 0, .int .i64 0, .int .i64 0, .int .i64 0, .slice none 0 0], rfl, rfl, ⟨H6.out⟩, ⟨⟨fun h => by omega, fun _ => ?_, fun h => by omega⟩⟩⟩
            have h1 := h0.out
            unfold ch1 chN
            exact ⟨by split <;> omega, by split <;> omega⟩
      · have q0 : (decE xs == 0) = false := beq_eq_false_iff_ne.2 h0
        have h0 := Aside0.mk h0
        by_cases h3 : decE xs = 93
        · have q3 : (decE xs == 93) = true := beq_iff_eq.2 h3
          go_wp2_with (go_at_call 77; (with_reducible refine (mdecode_any A n c xs wr (HX.out.below hC.out.1.bel)).mono ?_); rintro e w3 ⟨hB3, hc⟩; (have H3 := Aside0.mk (hC.out.step hB3)); clear hB3; (have hc := hc.resolve_right (fun k => h0.out k.1)); (obtain ⟨_, rfl⟩ := hc))
          go_roundg 1
          case measure => have := hk.out; omega
          case rel =>
            refine ⟨1, rfl, rfl, -1, 93, #[.int .i64 0, .int .i64 0, .int .i64 0, .int .i64 0, .int .i64 0, .int .i64 0, .int .i64 0, .slice none 0 0], rfl, rfl, ⟨H3.out.step ((Below.refl _ w3).alloc (Nat.le_refl _) _)⟩, ⟨⟨fun h => by omega, fun _ => ?_, fun h => by omega⟩⟩⟩
            have h1 := h0.out
            unfold ch1 chN
            exact ⟨by split <;> omega, by split <;> omega⟩
        · have q3 : (decE xs == 93) = false := beq_eq_false_iff_ne.2 h3
          go_wp2_with (go_at_call 77; (with_reducible refine (mdecode_any A n c xs wr (HX.out.below hC.out.1.bel)).mono ?_); rintro e w3 ⟨hB3, hc⟩; (have H3 := Aside0.mk (hC.out.step hB3)); clear hB3; (have hc := hc.resolve_right (fun k => h0.out k.1)); (obtain ⟨_, rfl⟩ := hc))
          go_roundg 1
          case measure => have := hk.out; omega
          case rel =>
            refine ⟨1, rfl, rfl, -1, 92, #[.int .i64 0, .int .i64 0, .int .i64 0, .int .i64 0, .int .i64 0, .int .i64 0, .int .i64 0, .slice none 0 0], rfl, rfl, ⟨H3.out.step ((Below.refl _ w3).alloc (Nat.le_refl _) _)⟩, ⟨⟨fun h => by omega, fun _ => ?_, fun h => by omega⟩⟩⟩
            have h1 := h0.out
            unfold ch1 chN
            exact ⟨by split <;> omega, by split <;> omega⟩
    · have hV2 := Aside0.mk (hV.out.2.1 rfl)
      clear hV HQ hjb
      rcases hC.out.2 with ⟨rfl, rfl⟩ | ⟨rfl, e0, Ab, cb, rfl, _⟩ | ⟨rfl, _⟩
      · skip
        by_cases h0 : decE ys = 0
        · have q0 := dec_tx h0
          have h0 := Aside0.mk h0
          by_cases hp : rdTx ys % 2 = 1
          · have q2 : (rdTx ys % 2 == 1) = true := beq_iff_eq.2 hp
            have q4 : decide (0 < rdTx ys) = true := decide_eq_true q0
            go_wp2_with (first | (go_at_call 77; (with_reducible refine (mdecode_any B m d ys wr (HY.out.below hC.out.1.bel)).mono ?_); rintro e w3 ⟨hB3, hc⟩; (have H3 := Aside0.mk (hC.out.step hB3)); clear hB3; (have hc := hc.resolve_left (fun k => k.1 h0.out)); (obtain ⟨_, A1, c1, rfl, hO1⟩ := hc); (have H6 := Aside0.mk (H3.out.step ((Below.refl _ w3).alloc (Nat.le_refl _) (.cells #[.int .i64 (rdGe ys), .int .i64 (rdPh ys), .int .i64 (rdTg ys), .int .i64 (rdTx ys), .int .i64 (rdRt ys), .int .i64 (rdPg ys), .int .i64 (rdLi ys), .slice A1 (rdCu ys).length c1] 36)))); (have HR6 := Aside0.mk (heap_alloc_new w3 (.cells #[.int .i64 (rdGe ys), .int .i64 (rdPh ys), .int .i64 (rdTg ys), .int .i64 (rdTx ys), .int .i64 (rdRt ys), .int .i64 (rdPg ys), .int .i64 (rdLi ys), .slice A1 (rdCu ys).length c1] 36))); (have HO6 := Aside0.mk (hO1.alloc (.cells #[.int .i64 (rdGe ys), .int .i64 (rdPh ys), .int .i64 (rdTg ys), .int .i64 (rdTx ys), .int .i64 (rdRt ys), .int .i64 (rdPg ys), .int .i64 (rdLi ys), .slice A1 (rdCu ys).length c1] 36))); clear hO1; (obtain ⟨w6, hw6⟩ : ∃ X, w3.alloc (.cells #[.int .i64 (rdGe ys), .int .i64 (rdPh ys), .int .i64 (rdTg ys), .int .i64 (rdTx ys), .int .i64 (rdRt ys), .int .i64 (rdPg ys), .int .i64 (rdLi ys), .slice A1 (rdCu ys).length c1] 36) = X := ⟨_, rfl⟩); rw [hw6] at H6 HR6 HO6; (obtain ⟨z0, z1, z2, z3, z4, z5, z6, z7⟩ := row8_cells HR6.out); (obtain ⟨x0, x1, x2, x3, x4, x5, x6, x7⟩ := row8_cells H6.out.1.row); (have xf := fun j => Go.Joins.unfrozen_of_block H6.out.1.row j)) | (go_at_call 44; (with_reducible refine (slot_any (rdTx ys) w6).mono ?_); rintro e w7 ⟨rfl, rfl⟩))
            go_roundg 0
            case measure => have := hk.out; omega
            case rel =>
              refine ⟨2, rfl, rfl, 1, no, #[.int .i64 (rdGe ys), .int .i64 (rdPh ys), .int .i64 (rdTg ys), .int .i64 (rdTx ys), .int .i64 (rdRt ys), .int .i64 (rdPg ys), .int .i64 (rdLi ys), .slice A1 (rdCu ys).length c1], rfl, rfl, ⟨H6.out.take1 h0.out (HO6.out.mono (by have := (Array.getElem?_eq_some_iff.1 hC.out.1.row).1; omega))⟩, ⟨⟨fun h => by omega, fun h => by omega, fun _ => ?_⟩⟩⟩
              have h1 := h0.out
              have h2 := hV2.out
              unfold ch1 chN at h2
              unfold chAt chE
              exact ⟨by (repeat' split at h2) <;> (repeat' split) <;> omega, by (repeat' split at h2) <;> (repeat' split) <;> omega⟩
          · have q2 : (rdTx ys % 2 == 1) = false := beq_eq_false_iff_ne.2 hp
            go_wp2_with (first | (go_at_call 77; (with_reducible refine (mdecode_any B m d ys wr (HY.out.below hC.out.1.bel)).mono ?_); rintro e w3 ⟨hB3, hc⟩; (have H3 := Aside0.mk (hC.out.step hB3)); clear hB3; (have hc := hc.resolve_left (fun k => k.1 h0.out)); (obtain ⟨_, A1, c1, rfl, hO1⟩ := hc); (have H6 := Aside0.mk (H3.out.step ((Below.refl _ w3).alloc (Nat.le_refl _) (.cells #[.int .i64 (rdGe ys), .int .i64 (rdPh ys), .int .i64 (rdTg ys), .int .i64 (rdTx ys), .int .i64 (rdRt ys), .int .i64 (rdPg ys), .int .i64 (rdLi ys), .slice A1 (rdCu ys).length c1] 36)))); (have HR6 := Aside0.mk (heap_alloc_new w3 (.cells #[.int .i64 (rdGe ys), .int .i64 (rdPh ys), .int .i64 (rdTg ys), .int .i64 (rdTx ys), .int .i64 (rdRt ys), .int .i64 (rdPg ys), .int .i64 (rdLi ys), .slice A1 (rdCu ys).length c1] 36))); (have HO6 := Aside0.mk (hO1.alloc (.cells #[.int .i64 (rdGe ys), .int .i64 (rdPh ys), .int .i64 (rdTg ys), .int .i64 (rdTx ys), .int .i64 (rdRt ys), .int .i64 (rdPg ys), .int .i64 (rdLi ys), .slice A1 (rdCu ys).length c1] 36))); clear hO1; (obtain ⟨w6, hw6⟩ : ∃ X, w3.alloc (.cells #[.int .i64 (rdGe ys), .int .i64 (rdPh ys), .int .i64 (rdTg ys), .int .i64 (rdTx ys), .int .i64 (rdRt ys), .int .i64 (rdPg ys), .int .i64 (rdLi ys), .slice A1 (rdCu ys).length c1] 36) = X := ⟨_, rfl⟩); rw [hw6] at H6 HR6 HO6; (obtain ⟨z0, z1, z2, z3, z4, z5, z6, z7⟩ := row8_cells HR6.out); (obtain ⟨x0, x1, x2, x3, x4, x5, x6, x7⟩ := row8_cells H6.out.1.row); (have xf := fun j => Go.Joins.unfrozen_of_block H6.out.1.row j)) | (go_at_call 44; (with_reducible refine (slot_any (rdTx ys) w6).mono ?_); rintro e w7 ⟨rfl, rfl⟩))
            go_roundg 0
            case measure => have := hk.out; omega
            case rel =>
              refine ⟨2, rfl, rfl, -1, no, #[.int .i64 0, .int .i64 0, .int .i64 0, .int .i64 0, .int .i64 0, .int .i64 0, .int .i64 0, .slice none 0 0], rfl, rfl, ⟨H6.out⟩, ⟨⟨fun h => by omega, fun h => by omega, fun _ => ?_⟩⟩⟩
              have h1 := h0.out
              have h2 := hV2.out
              unfold ch1 chN at h2
              unfold chAt chE
              exact ⟨by (repeat' split at h2) <;> (repeat' split) <;> omega, by (repeat' split at h2) <;> (repeat' split) <;> omega⟩
        · have q0 : (decE ys == 0) = false := beq_eq_false_iff_ne.2 h0
          have h0 := Aside0.mk h0
          by_cases h3 : decE ys = 93
          · have q3 : (decE ys == 93) = true := beq_iff_eq.2 h3
            go_wp2_with (go_at_call 77; (with_reducible refine (mdecode_any B m d ys wr (HY.out.below hC.out.1.bel)).mono ?_); rintro e w3 ⟨hB3, hc⟩; (have H3 := Aside0.mk (hC.out.step hB3)); clear hB3; (have hc := hc.resolve_right (fun k => h0.out k.1)); (obtain ⟨_, rfl⟩ := hc))
            go_roundg 0
            case measure => have := hk.out; omega
            case rel =>
              refine ⟨2, rfl, rfl, -1, 93, #[.int .i64 0, .int .i64 0, .int .i64 0, .int .i64 0, .int .i64 0, .int .i64 0, .int .i64 0, .slice none 0 0], rfl, rfl, ⟨H3.out.step ((Below.refl _ w3).alloc (Nat.le_refl _) _)⟩, ⟨⟨fun h => by omega, fun h => by omega, fun _ => ?_⟩⟩⟩
              have h1 := h0.out
              have h2 := hV2.out
              unfold ch1 chN at h2
              unfold chAt chE
              exact ⟨by (repeat' split at h2) <;> (repeat' split) <;> omega, by (repeat' split at h2) <;> (repeat' split) <;> omega⟩
          · have q3 : (decE ys == 93) = false := beq_eq_false_iff_ne.2 h3
            go_wp2_with (go_at_call 77; (with_reducible refine (mdecode_any B m d ys wr (HY.out.below hC.out.1.bel)).mono ?_); rintro e w3 ⟨hB3, hc⟩; (have H3 := Aside0.mk (hC.out.step hB3)); clear hB3; (have hc := hc.resolve_right (fun k => h0.out k.1)); (obtain ⟨_, rfl⟩ := hc))
            go_roundg 0
            case measure => have := hk.out; omega
            case rel =>
              refine ⟨2, rfl, rfl, -1, no, #[.int .i64 0, .int .i64 0, .int .i64 0, .int .i64 0, .int .i64 0, .int .i64 0, .int .i64 0, .slice none 0 0], rfl, rfl, ⟨H3.out.step ((Below.refl _ w3).alloc (Nat.le_refl _) _)⟩, ⟨⟨fun h => by omega, fun h => by omega, fun _ => ?_⟩⟩⟩
              have h1 := h0.out
              have h2 := hV2.out
              unfold ch1 chN at h2
              unfold chAt chE
              exact ⟨by (repeat' split at h2) <;> (repeat' split) <;> omega, by (repeat' split at h2) <;> (repeat' split) <;> omega⟩
      · skip
        by_cases h0 : decE ys = 0
        · have q0 := dec_tx h0
          have h0 := Aside0.mk h0
          by_cases hp : rdTx ys % 2 = 1
          · have q2 : (rdTx ys % 2 == 1) = true := beq_iff_eq.2 hp
            by_cases hg : rdTx xs < rdTx ys
            · have q4 : decide (rdTx xs < rdTx ys) = true := decide_eq_true hg
              go_wp2_with (first | (go_at_call 77; (with_reducible refine (mdecode_any B m d ys wr (HY.out.below hC.out.1.bel)).mono ?_); rintro e w3 ⟨hB3, hc⟩; (have H3 := Aside0.mk (hC.out.step hB3)); clear hB3; (have hc := hc.resolve_left (fun k => k.1 h0.out)); (obtain ⟨_, A1, c1, rfl, hO1⟩ := hc); (have H6 := Aside0.mk (H3.out.step ((Below.refl _ w3).alloc (Nat.le_refl _) (.cells #[.int .i64 (rdGe ys), .int .i64 (rdPh ys), .int .i64 (rdTg ys), .int .i64 (rdTx ys), .int .i64 (rdRt ys), .int .i64 (rdPg ys), .int .i64 (rdLi ys), .slice A1 (rdCu ys).length c1] 36)))); (have HR6 := Aside0.mk (heap_alloc_new w3 (.cells #[.int .i64 (rdGe ys), .int .i64 (rdPh ys), .int .i64 (rdTg ys), .int .i64 (rdTx ys), .int .i64 (rdRt ys), .int .i64 (rdPg ys), .int .i64 (rdLi ys), .slice A1 (rdCu ys).length c1] 36))); (have HO6 := Aside0.mk (hO1.alloc (.cells #[.int .i64 (rdGe ys), .int .i64 (rdPh ys), .int .i64 (rdTg ys), .int .i64 (rdTx ys), .int .i64 (rdRt ys), .int .i64 (rdPg ys), .int .i64 (rdLi ys), .slice A1 (rdCu ys).length c1] 36))); clear hO1; (obtain ⟨w6, hw6⟩ : ∃ X, w3.alloc (.cells #[.int .i64 (rdGe ys), .int .i64 (rdPh ys), .int .i64 (rdTg ys), .int .i64 (rdTx ys), .int .i64 (rdRt ys), .int .i64 (rdPg ys), .int .i64 (rdLi ys), .slice A1 (rdCu ys).length c1] 36) = X := ⟨_, rfl⟩); rw [hw6] at H6 HR6 HO6; (obtain ⟨z0, z1, z2, z3, z4, z5, z6, z7⟩ := row8_cells HR6.out); (obtain ⟨x0, x1, x2, x3, x4, x5, x6, x7⟩ := row8_cells H6.out.1.row); (have xf := fun j => Go.Joins.unfrozen_of_block H6.out.1.row j)) | (go_at_call 44; (with_reducible refine (slot_any (rdTx ys) w6).mono ?_); rintro e w7 ⟨rfl, rfl⟩))
              go_roundg 0
              case measure => have := hk.out; omega
              case rel =>
                refine ⟨2, rfl, rfl, 1, no, #[.int .i64 (rdGe ys), .int .i64 (rdPh ys), .int .i64 (rdTg ys), .int .i64 (rdTx ys), .int .i64 (rdRt ys), .int .i64 (rdPg ys), .int .i64 (rdLi ys), .slice A1 (rdCu ys).length c1], rfl, rfl, ⟨H6.out.take1 h0.out (HO6.out.mono (by have := (Array.getElem?_eq_some_iff.1 hC.out.1.row).1; omega))⟩, ⟨⟨fun h => by omega, fun h => by omega, fun _ => ?_⟩⟩⟩
                have h1 := h0.out
                have h2 := hV2.out
                unfold ch1 chN at h2
                unfold chAt chE
                exact ⟨by (repeat' split at h2) <;> (repeat' split) <;> omega, by (repeat' split at h2) <;> (repeat' split) <;> omega⟩
            · have q4 : decide (rdTx xs < rdTx ys) = false := decide_eq_false hg
              go_wp2_with (first | (go_at_call 77; (with_reducible refine (mdecode_any B m d ys wr (HY.out.below hC.out.1.bel)).mono ?_); rintro e w3 ⟨hB3, hc⟩; (have H3 := Aside0.mk (hC.out.step hB3)); clear hB3; (have hc := hc.resolve_left (fun k => k.1 h0.out)); (obtain ⟨_, A1, c1, rfl, hO1⟩ := hc); (have H6 := Aside0.mk (H3.out.step ((Below.refl _ w3).alloc (Nat.le_refl _) (.cells #[.int .i64 (rdGe ys), .int .i64 (rdPh ys), .int .i64 (rdTg ys), .int .i64 (rdTx ys), .int .i64 (rdRt ys), .int .i64 (rdPg ys), .int .i64 (rdLi ys), .slice A1 (rdCu ys).length c1] 36)))); (have HR6 := Aside0.mk (heap_alloc_new w3 (.cells #[.int .i64 (rdGe ys), .int .i64 (rdPh ys), .int .i64 (rdTg ys), .int .i64 (rdTx ys), .int .i64 (rdRt ys), .int .i64 (rdPg ys), .int .i64 (rdLi ys), .slice A1 (rdCu ys).length c1] 36))); (have HO6 := Aside0.mk (hO1.alloc (.cells #[.int .i64 (rdGe ys), .int .i64 (rdPh ys), .int .i64 (rdTg ys), .int .i64 (rdTx ys), .int .i64 (rdRt ys), .int .i64 (rdPg ys), .int .i64 (rdLi ys), .slice A1 (rdCu ys).length c1] 36))); clear hO1; (obtain ⟨w6, hw6⟩ : ∃ X, w3.alloc (.cells #[.int .i64 (rdGe ys), .int .i64 (rdPh ys), .int .i64 (rdTg ys), .int .i64 (rdTx ys), .int .i64 (rdRt ys), .int .i64 (rdPg ys), .int .i64 (rdLi ys), .slice A1 (rdCu ys).length c1] 36) = X := ⟨_, rfl⟩); rw [hw6] at H6 HR6 HO6; (obtain ⟨z0, z1, z2, z3, z4, z5, z6, z7⟩ := row8_cells HR6.out); (obtain ⟨x0, x1, x2, x3, x4, x5, x6, x7⟩ := row8_cells H6.out.1.row); (have xf := fun j => Go.Joins.unfrozen_of_block H6.out.1.row j)) | (go_at_call 44; (with_reducible refine (slot_any (rdTx ys) w6).mono ?_); rintro e w7 ⟨rfl, rfl⟩))
              go_roundg 0
              case measure => have := hk.out; omega
              case rel =>
                refine ⟨2, rfl, rfl, 0, no, #[.int .i64 (rdGe xs), .int .i64 (rdPh xs), .int .i64 (rdTg xs), .int .i64 (rdTx xs), .int .i64 (rdRt xs), .int .i64 (rdPg xs), .int .i64 (rdLi xs), .slice Ab (rdCu xs).length cb], rfl, rfl, ⟨H6.out⟩, ⟨⟨fun h => by omega, fun h => by omega, fun _ => ?_⟩⟩⟩
                have h1 := h0.out
                have h2 := hV2.out
                unfold ch1 chN at h2
                unfold chAt chE
                exact ⟨by (repeat' split at h2) <;> (repeat' split) <;> omega, by (repeat' split at h2) <;> (repeat' split) <;> omega⟩
          · have q2 : (rdTx ys % 2 == 1) = false := beq_eq_false_iff_ne.2 hp
            go_wp2_with (first | (go_at_call 77; (with_reducible refine (mdecode_any B m d ys wr (HY.out.below hC.out.1.bel)).mono ?_); rintro e w3 ⟨hB3, hc⟩; (have H3 := Aside0.mk (hC.out.step hB3)); clear hB3; (have hc := hc.resolve_left (fun k => k.1 h0.out)); (obtain ⟨_, A1, c1, rfl, hO1⟩ := hc); (have H6 := Aside0.mk (H3.out.step ((Below.refl _ w3).alloc (Nat.le_refl _) (.cells #[.int .i64 (rdGe ys), .int .i64 (rdPh ys), .int .i64 (rdTg ys), .int .i64 (rdTx ys), .int .i64 (rdRt ys), .int .i64 (rdPg ys), .int .i64 (rdLi ys), .slice A1 (rdCu ys).length c1] 36)))); (have HR6 := Aside0.mk (heap_alloc_new w3 (.cells #[.int .i64 (rdGe ys), .int .i64 (rdPh ys), .int .i64 (rdTg ys), .int .i64 (rdTx ys), .int .i64 (rdRt ys), .int .i64 (rdPg ys), .int .i64 (rdLi ys), .slice A1 (rdCu ys).length c1] 36))); (have HO6 := Aside0.mk (hO1.alloc (.cells #[.int .i64 (rdGe ys), .int .i64 (rdPh ys), .int .i64 (rdTg ys), .int .i64 (rdTx ys), .int .i64 (rdRt ys), .int .i64 (rdPg ys), .int .i64 (rdLi ys), .slice A1 (rdCu ys).length c1] 36))); clear hO1; (obtain ⟨w6, hw6⟩ : ∃ X, w3.alloc (.cells #[.int .i64 (rdGe ys), .int .i64 (rdPh ys), .int .i64 (rdTg ys), .int .i64 (rdTx ys), .int .i64 (rdRt ys), .int .i64 (rdPg ys), .int .i64 (rdLi ys), .slice A1 (rdCu ys).length c1] 36) = X := ⟨_, rfl⟩); rw [hw6] at H6 HR6 HO6; (obtain ⟨z0, z1, z2, z3, z4, z5, z6, z7⟩ := row8_cells HR6.out); (obtain ⟨x0, x1, x2, x3, x4, x5, x6, x7⟩ := row8_cells H6.out.1.row); (have xf := fun j => Go.Joins.unfrozen_of_block H6.out.1.row j)) | (go_at_call 44; (with_reducible refine (slot_any (rdTx ys) w6).mono ?_); rintro e w7 ⟨rfl, rfl⟩))
            go_roundg 0
            case measure => have := hk.out; omega
            case rel =>
              refine ⟨2, rfl, rfl, 0, no, #[.int .i64 (rdGe xs), .int .i64 (rdPh xs), .int .i64 (rdTg xs), .int .i64 (rdTx xs), .int .i64 (rdRt xs), .int .i64 (rdPg xs), .int .i64 (rdLi xs), .slice Ab (rdCu xs).length cb], rfl, rfl, ⟨H6.out⟩, ⟨⟨fun h => by omega, fun h => by omega, fun _ => ?_⟩⟩⟩
              have h1 := h0.out
              have h2 := hV2.out
              unfold ch1 chN at h2
              unfold chAt chE
              exact ⟨by (repeat' split at h2) <;> (repeat' split) <;> omega, by (repeat' split at h2) <;> (repeat' split) <;> omega⟩
        · have q0 : (decE ys == 0) = false := beq_eq_false_iff_ne.2 h0
          have h0 := Aside0.mk h0
          by_cases h3 : decE ys = 93
          · have q3 : (decE ys == 93) = true := beq_iff_eq.2 h3
            go_wp2_with (go_at_call 77; (with_reducible refine (mdecode_any B m d ys wr (HY.out.below hC.out.1.bel)).mono ?_); rintro e w3 ⟨hB3, hc⟩; (have H3 := Aside0.mk (hC.out.step hB3)); clear hB3; (have hc := hc.resolve_right (fun k => h0.out k.1)); (obtain ⟨_, rfl⟩ := hc))
            go_roundg 0
            case measure => have := hk.out; omega
            case rel =>
              refine ⟨2, rfl, rfl, 0, 93, #[.int .i64 (rdGe xs), .int .i64 (rdPh xs), .int .i64 (rdTg xs), .int .i64 (rdTx xs), .int .i64 (rdRt xs), .int .i64 (rdPg xs), .int .i64 (rdLi xs), .slice Ab (rdCu xs).length cb], rfl, rfl, ⟨H3.out.step ((Below.refl _ w3).alloc (Nat.le_refl _) _)⟩, ⟨⟨fun h => by omega, fun h => by omega, fun _ => ?_⟩⟩⟩
              have h1 := h0.out
              have h2 := hV2.out
              unfold ch1 chN at h2
              unfold chAt chE
              exact ⟨by (repeat' split at h2) <;> (repeat' split) <;> omega, by (repeat' split at h2) <;> (repeat' split) <;> omega⟩
          · have q3 : (decE ys == 93) = false := beq_eq_false_iff_ne.2 h3
            go_wp2_with (go_at_call 77; (with_reducible refine (mdecode_any B m d ys wr (HY.out.below hC.out.1.bel)).mono ?_); rintro e w3 ⟨hB3, hc⟩; (have H3 := Aside0.mk (hC.out.step hB3)); clear hB3; (have hc := hc.resolve_right (fun k => h0.out k.1)); (obtain ⟨_, rfl⟩ := hc))
            go_roundg 0
            case measure => have := hk.out; omega
            case rel =>
              refine ⟨2, rfl, rfl, 0, no, #[.int .i64 (rdGe xs), .int .i64 (rdPh xs), .int .i64 (rdTg xs), .int .i64 (rdTx xs), .int .i64 (rdRt xs), .int .i64 (rdPg xs), .int .i64 (rdLi xs), .slice Ab (rdCu xs).length cb], rfl, rfl, ⟨H3.out.step ((Below.refl _ w3).alloc (Nat.le_refl _) _)⟩, ⟨⟨fun h => by omega, fun h => by omega, fun _ => ?_⟩⟩⟩
              have h1 := h0.out
              have h2 := hV2.out
              unfold ch1 chN at h2
              unfold chAt chE
              exact ⟨by (repeat' split at h2) <;> (repeat' split) <;> omega, by (repeat' split at h2) <;> (repeat' split) <;> omega⟩
      · exfalso
        have h2 := hV2.out.1
        unfold ch1 at h2
        split at h2 <;> omega
    · obtain ⟨hV2, hno⟩ := hV.out.2.2 rfl
      replace hV2 := Aside0.mk hV2
      replace hno := Aside0.mk hno
      clear hV HQ hjb hk aix0 aix1 ff
      rcases hC.out.2 with ⟨rfl, rfl⟩ | ⟨rfl, _, Ab, cb, rfl, hO⟩ | ⟨rfl, _, Ab, cb, rfl, hO⟩
      · have hC1 := hC
        obtain ⟨x0, x1, x2, x3, x4, x5, x6, x7⟩ := row8_cells hC.out.1.row
        obtain ⟨y0, y1, y2, y3, y4, y5, y6, y7⟩ := row8_cells hC.out.1.res
        have yf := fun j => Go.Joins.unfrozen_of_block hC.out.1.res j
        generalize wr = wq at *
        go_wp2_with fail
        have hL := mload (row8_set (.int .i64 0) (.int .i64 0) (.int .i64 0) (.int .i64 0) (.int .i64 0) (.int .i64 0) (.int .i64 0) (.slice none 0 0) hC.out.1.res)
        refine bodyPost_ret (v := .tuple #[.agg #[.int .i64 0, .int .i64 0, .int .i64 0, .int .i64 0, .int .i64 0, .int .i64 0, .int .i64 0, .slice none 0 0], .int .i64 (-1), .int .i64 no]) (by simp [results, Try.results48, asAddr, hL]) rfl ⟨below_set8 _ _ _ _ _ _ _ _ hC.out.1.bel (Nat.le_refl _), .inl ⟨hV2.out.symm, by rw [hno.out]⟩⟩
      · have hC1 := hC
        obtain ⟨x0, x1, x2, x3, x4, x5, x6, x7⟩ := row8_cells hC.out.1.row
        obtain ⟨y0, y1, y2, y3, y4, y5, y6, y7⟩ := row8_cells hC.out.1.res
        have yf := fun j => Go.Joins.unfrozen_of_block hC.out.1.res j
        have HO := Aside0.mk hO
        have hnl : decide ((0 : Int) < 0) = false := by decide
        clear hO
        generalize wr = wq at *
        go_wp2_with fail
        have hL := mload (row8_set (.int .i64 (rdGe xs)) (.int .i64 (rdPh xs)) (.int .i64 (rdTg xs)) (.int .i64 (rdTx xs)) (.int .i64 (rdRt xs)) (.int .i64 (rdPg xs)) (.int .i64 (rdLi xs)) (.slice Ab (rdCu xs).length cb) hC.out.1.res)
        refine bodyPost_ret (v := .tuple #[.agg #[.int .i64 (rdGe xs), .int .i64 (rdPh xs), .int .i64 (rdTg xs), .int .i64 (rdTx xs), .int .i64 (rdRt xs), .int .i64 (rdPg xs), .int .i64 (rdLi xs), .slice Ab (rdCu xs).length cb], .int .i64 0, .int .i64 0]) (by simp [results, Try.results48, asAddr, hL]) rfl ⟨below_set8 _ _ _ _ _ _ _ _ hC.out.1.bel (Nat.le_refl _), .inr (.inl ⟨hV2.out.symm, Ab, cb, rfl, (HO.out.only_lo (only_set8 _ _ _ _ _ _ _ _) (by omega)).mono (by omega)⟩)⟩
      · have hC1 := hC
        obtain ⟨x0, x1, x2, x3, x4, x5, x6, x7⟩ := row8_cells hC.out.1.row
        obtain ⟨y0, y1, y2, y3, y4, y5, y6, y7⟩ := row8_cells hC.out.1.res
        have yf := fun j => Go.Joins.unfrozen_of_block hC.out.1.res j
        have HO := Aside0.mk hO
        have hnl : decide ((1 : Int) < 0) = false := by decide
        clear hO
        generalize wr = wq at *
        go_wp2_with fail
        have hL := mload (row8_set (.int .i64 (rdGe ys)) (.int .i64 (rdPh ys)) (.int .i64 (rdTg ys)) (.int .i64 (rdTx ys)) (.int .i64 (rdRt ys)) (.int .i64 (rdPg ys)) (.int .i64 (rdLi ys)) (.slice Ab (rdCu ys).length cb) hC.out.1.res)
        refine bodyPost_ret (v := .tuple #[.agg #[.int .i64 (rdGe ys), .int .i64 (rdPh ys), .int .i64 (rdTg ys), .int .i64 (rdTx ys), .int .i64 (rdRt ys), .int .i64 (rdPg ys), .int .i64 (rdLi ys), .slice Ab (rdCu ys).length cb], .int .i64 1, .int .i64 0]) (by simp [results, Try.results48, asAddr, hL]) rfl ⟨below_set8 _ _ _ _ _ _ _ _ hC.out.1.bel (Nat.le_refl _), .inr (.inr ⟨hV2.out.symm, Ab, cb, rfl, (HO.out.only_lo (only_set8 _ _ _ _ _ _ _ _) (by omega)).mono (by omega)⟩)⟩

end Go.Proofs.Ythhalmjapiempaa

set_option linter.unusedVariables false
set_option linter.unusedSimpArgs false
namespace Go.Proofs.Ythhalmjapiempaa
open Go.RowKit

end Go.Proofs.Ythhalmjapiempaa
