/- The walk of meta's Decode. -/
import Derived.Test.YtenibcbodjkglaaM7
import Derived.Lib.SmallJoins
set_option linter.unusedVariables false
set_option linter.unusedSimpArgs false
namespace Go.Proofs.Ytenibcbodjkglaa
open Go.RowKit

def pre8 (xs ys : List UInt8) : Bool := decide (ys.length ≤ xs.length ∧ xs.take ys.length = ys)
/-- Why Decode says no; 0: it does not. -/
def decE (xs : List UInt8) : Int :=
  if xs.length = 256 ∧ pre8 xs magicL = true ∧ pre8 (xs.drop 248) tailL = true then
    if sealB xs 252 = xs then
      if genB (rdGe xs) = true ∧ rdTg xs ≤ 3 then
        if mrightB (rdGe xs) (rdPh xs) (rdTg xs) (rdTx xs) (rdRt xs) (rdPg xs) (rdLi xs) (rdCu xs).length = true ∧ encP (rdGe xs) (rdPh xs) (rdTg xs) (rdTx xs) (rdRt xs) (rdPg xs) (rdLi xs) (rdCu xs) = xs then 0 else 92
      else 93
    else 91
  else 90
set_option maxHeartbeats 1000000 in
set_option maxRecDepth 100000 in
theorem hasPrefix_any (A : Option Addr) (n c : Nat) (xs : List UInt8) (B : Option Addr) (m d : Nat) (ys : List UInt8) (w : World) (hx : Bs w A n c xs) (hy : Bs w B m d ys) :
    Calls Try.prog 39 #[.slice A n c, .slice B m d] w fun e w' => e = .returned (.bool (pre8 xs ys)) ∧ w = w' := by
  have hln := hx.len
  have hlm := hy.len
  have hl1 := hx.lim
  have hl2 := hy.lim
  by_cases h : m ≤ n
  · have f1 : decide (m ≤ n) = true := decide_eq_true h
    have s1 : ∀ W : World, (Instr.slice 22 (.slice A n c) none (some (.int .i64 (m : Int))) none).run Try.prog W = .ok (.slice A m c) W := fun W => by
      rw [sl8_h W A n c .i64 (m : Int) (by omega) (by have := hx.le; omega), Int.toNat_natCast]
    have hv := Aside0.mk (show pre8 xs ys = (xs.take m == ys) from by unfold pre8; rw [hlm, hln, Bool.eq_iff_iff, decide_eq_true_iff, beq_iff_eq]; exact ⟨fun k => k.2, fun k => ⟨h, k⟩⟩)
    have HX := Aside0.mk (And.intro (hx.take m h) hy)
    clear hx hy hln hlm h
    go_enter Try.func39, Try.ntmps39
    go_wp2_with (go_at_call 12; refine (equal8_any _ _ _ _ _ _ _ _ _ HX.out.1 HX.out.2).mono ?_; rintro e w1 ⟨rfl, rfl⟩)
    go_ret
    exact ⟨ret_bool hv.out.symm, rfl⟩
  · have f1 : decide (m ≤ n) = false := decide_eq_false h
    have hv := Aside0.mk (show pre8 xs ys = false from decide_eq_false (fun k => by omega))
    clear hx hy hln hlm h
    go_enter Try.func39, Try.ntmps39
    go_wp2
    go_ret
    exact ⟨ret_bool hv.out.symm, rfl⟩

theorem below_set8 {B g : Nat} {a W : World} (v0 v1 v2 v3 v4 v5 v6 v7 : Value) (h : Below B a W) (hg : B ≤ g) :
    Below B a ((((((((W.setCell ⟨g, 0, none⟩ v0).setCell ⟨g, 1, none⟩ v1).setCell ⟨g, 2, none⟩ v2).setCell ⟨g, 3, none⟩ v3).setCell ⟨g, 4, none⟩ v4).setCell ⟨g, 5, none⟩ v5).setCell ⟨g, 6, none⟩ v6).setCell ⟨g, 7, none⟩ v7) :=
  below_set _ (below_set _ (below_set _ (below_set _ (below_set _ (below_set _ (below_set _ (below_set _ h hg) hg) hg) hg) hg) hg) hg) hg

/-- The meta's box, and the result's, as Decode goes on. -/
structure MB (w : World) (g : Nat) (A1 : Option Addr) (c1 : Nat) (xs : List UInt8) (W : World) : Prop where
  bel : Below w.heap.size w W
  res : W.heap[w.heap.size]? = some (.cells #[.int .i64 0, .int .i64 0, .int .i64 0, .int .i64 0, .int .i64 0, .int .i64 0, .int .i64 0, .slice none 0 0] 26)
  row : W.heap[g]? = some (.cells #[.int .i64 (rdGe xs), .int .i64 (rdPh xs), .int .i64 (rdTg xs), .int .i64 (rdTx xs), .int .i64 (rdRt xs), .int .i64 (rdPg xs), .int .i64 (rdLi xs), .slice A1 (rdCu xs).length c1] 26)
  own : Ow W (w.heap.size + 1) A1 (rdCu xs).length c1 (rdCu xs)
  lo : w.heap.size < g
theorem MB.step {w W W1 : World} {g c1 : Nat} {A1 : Option Addr} {xs : List UInt8} (h : MB w g A1 c1 xs W) (hB : Below W.heap.size W W1) : MB w g A1 c1 xs W1 :=
  ⟨below_then h.bel h.bel.size hB, (hB.block _ (Array.getElem?_eq_some_iff.1 h.res).1).trans h.res, (hB.block _ (Array.getElem?_eq_some_iff.1 h.row).1).trans h.row, h.own.below hB, h.lo⟩
theorem only_set8 {g : Nat} {W : World} (v0 v1 v2 v3 v4 v5 v6 v7 : Value) :
    OnlyB g W ((((((((W.setCell ⟨g, 0, none⟩ v0).setCell ⟨g, 1, none⟩ v1).setCell ⟨g, 2, none⟩ v2).setCell ⟨g, 3, none⟩ v3).setCell ⟨g, 4, none⟩ v4).setCell ⟨g, 5, none⟩ v5).setCell ⟨g, 6, none⟩ v6).setCell ⟨g, 7, none⟩ v7) :=
  ((((((((OnlyB.refl g W).set 0 v0).set 1 v1).set 2 v2).set 3 v3).set 4 v4).set 5 v5).set 6 v6).set 7 v7
theorem Ow.only_lo {w w1 : World} {g base n c : Nat} {A : Option Addr} {xs : List UInt8} (h : Ow w base A n c xs) (ho : OnlyB g w w1) (hg : g < base) : Ow w1 base A n c xs := by
  refine ⟨⟨h.row.1, ?_⟩, h.lim⟩
  rcases h.row.2 with hn | ⟨k, cap, cur, hv, hk, hh, rest⟩
  · exact .inl hn
  · exact .inr ⟨k, cap, cur, hv, hk, (ho.block k (Array.getElem?_eq_some_iff.1 hh).1 (by omega)).trans hh, rest⟩

theorem mread256 (A : Option Addr) (c : Nat) (xs : List UInt8) (w : World) (hb : Bs w A 256 c xs) (hl : xs.length = 256) :
    Calls Try.prog 41 #[.slice A 256 c] w fun e w' => Below w.heap.size w w' ∧ ∃ A' c', e = .returned (.agg #[.int .i64 (rdGe xs), .int .i64 (rdPh xs), .int .i64 (rdTg xs), .int .i64 (rdTx xs), .int .i64 (rdRt xs), .int .i64 (rdPg xs), .int .i64 (rdLi xs), .slice A' (rdCu xs).length c']) ∧ Ow w' w.heap.size A' (rdCu xs).length c' (rdCu xs) := by
  have h := mread_any A c xs w (by rw [hl]; exact hb) hl
  rw [hl] at h
  exact h

set_option maxHeartbeats 4000000 in
set_option maxRecDepth 100000 in
theorem mdecode_any (A : Option Addr) (n c : Nat) (xs : List UInt8) (w : World) (hb : Bs w A n c xs) :
    Calls Try.prog 17 #[.slice A n c] w fun e w' => Below w.heap.size w w' ∧ ((decE xs ≠ 0 ∧ e = .returned (.tuple #[.agg #[.int .i64 0, .int .i64 0, .int .i64 0, .int .i64 0, .int .i64 0, .int .i64 0, .int .i64 0, .slice none 0 0], .int .i64 (decE xs)])) ∨ (decE xs = 0 ∧ ∃ A1 c1, e = .returned (.tuple #[.agg #[.int .i64 (rdGe xs), .int .i64 (rdPh xs), .int .i64 (rdTg xs), .int .i64 (rdTx xs), .int .i64 (rdRt xs), .int .i64 (rdPg xs), .int .i64 (rdLi xs), .slice A1 (rdCu xs).length c1], .int .i64 0]) ∧ Ow w' w.heap.size A1 (rdCu xs).length c1 (rdCu xs))) := by
  have hln := hb.len
  have hlim := hb.lim
  have hnc := hb.le
  have hr := Aside0.mk (heap_alloc_new w (.cells #[.int .i64 0, .int .i64 0, .int .i64 0, .int .i64 0, .int .i64 0, .int .i64 0, .int .i64 0, .slice none 0 0] 26))
  have HB := Aside0.mk ((Below.refl w.heap.size w).alloc (Nat.le_refl _) (.cells #[.int .i64 0, .int .i64 0, .int .i64 0, .int .i64 0, .int .i64 0, .int .i64 0, .int .i64 0, .slice none 0 0] 26))
  have HX := Aside0.mk hb
  clear hb
  by_cases h256 : n = 256
  · subst h256
    have kcA := fun C n c => Go.Joins.run_convert_bytes_const_at (P := Try.prog) (w.alloc (.cells #[.int .i64 0, .int .i64 0, .int .i64 0, .int .i64 0, .int .i64 0, .int .i64 0, .int .i64 0, .slice none 0 0] 26)) 22 5 C n c (w.heap.size + 1) (by simp) Try.underlying22 Try.underlying5
    have kcB := fun C n c => Go.Joins.run_convert_bytes_const_at (P := Try.prog) ((w.alloc (.cells #[.int .i64 0, .int .i64 0, .int .i64 0, .int .i64 0, .int .i64 0, .int .i64 0, .int .i64 0, .slice none 0 0] 26)).alloc (.cells #[.int .u8 82, .int .u8 71, .int .u8 65, .int .u8 85] 5 (4, 5))) 22 5 C n c (w.heap.size + 1 + 1) (by simp) Try.underlying22 Try.underlying5
    have s1 : ∀ W : World, (Instr.slice 22 (.slice A 256 c) (some (.int .i64 248)) none none).run Try.prog W = .ok (.slice (cutA A c 248) 8 (c - 248)) W := fun W => by
      rw [sl8_l W A 256 c .i64 248 (by omega) (by omega)]
      rfl
    have HM := Aside0.mk (And.intro ((HX.out.alloc (.cells #[.int .i64 0, .int .i64 0, .int .i64 0, .int .i64 0, .int .i64 0, .int .i64 0, .int .i64 0, .slice none 0 0] 26)).alloc (.cells #[.int .u8 82, .int .u8 71, .int .u8 65, .int .u8 85] 5 (4, 5))) (Bs.lit (w.alloc (.cells #[.int .i64 0, .int .i64 0, .int .i64 0, .int .i64 0, .int .i64 0, .int .i64 0, .int .i64 0, .slice none 0 0] 26)) (w.heap.size + 1) (by simp) #[.int .u8 82, .int .u8 71, .int .u8 65, .int .u8 85] 5 (4, 5) 4 4 magicL rfl rfl (by omega) (by omega) (by omega)))
    have HT := Aside0.mk (And.intro ((((HX.out.drop 248 (by omega)).alloc (.cells #[.int .i64 0, .int .i64 0, .int .i64 0, .int .i64 0, .int .i64 0, .int .i64 0, .int .i64 0, .slice none 0 0] 26)).alloc (.cells #[.int .u8 82, .int .u8 71, .int .u8 65, .int .u8 85] 5 (4, 5))).alloc (.cells #[.int .u8 85, .int .u8 65, .int .u8 71, .int .u8 82] 5 (4, 5))) (Bs.lit ((w.alloc (.cells #[.int .i64 0, .int .i64 0, .int .i64 0, .int .i64 0, .int .i64 0, .int .i64 0, .int .i64 0, .slice none 0 0] 26)).alloc (.cells #[.int .u8 82, .int .u8 71, .int .u8 65, .int .u8 85] 5 (4, 5))) (w.heap.size + 1 + 1) (by simp) #[.int .u8 85, .int .u8 65, .int .u8 71, .int .u8 82] 5 (4, 5) 4 4 tailL rfl rfl (by omega) (by omega) (by omega)))
    cases p1 : pre8 xs magicL with
    | false =>
      have hd := Aside0.mk (show decE xs = 90 from if_neg (fun k => by rw [p1] at k; exact Bool.noConfusion k.2.1))
      have hL := mload ((Below.heap_alloc (w.alloc (.cells #[.int .i64 0, .int .i64 0, .int .i64 0, .int .i64 0, .int .i64 0, .int .i64 0, .int .i64 0, .slice none 0 0] 26)) (.cells #[.int .u8 82, .int .u8 71, .int .u8 65, .int .u8 85] 5 (4, 5)) w.heap.size (by simp)).trans hr.out)
      go_enter Try.func17, Try.ntmps17
      go_wp2_with (go_at_call 39; first | ((with_reducible refine (hasPrefix_any A 256 c xs _ 4 4 magicL _ HM.out.1 HM.out.2).mono ?_); rintro e w2 ⟨rfl, rfl⟩; rw [p1]) | ((with_reducible refine (hasPrefix_any _ _ _ (xs.drop 248) _ 4 4 tailL _ HT.out.1 HT.out.2).mono ?_); rintro e w3 ⟨rfl, rfl⟩; rw [p2]))
      refine bodyPost_ret (v := .tuple #[.agg #[.int .i64 0, .int .i64 0, .int .i64 0, .int .i64 0, .int .i64 0, .int .i64 0, .int .i64 0, .slice none 0 0], .int .i64 90]) (by simp [results, Try.results17, asAddr, hL]) rfl ⟨HB.out.alloc (by simp) _, .inl ⟨by rw [hd.out]; decide, by rw [hd.out]⟩⟩
    | true =>
      cases p2 : pre8 (xs.drop 248) tailL with
      | false =>
        have hd := Aside0.mk (show decE xs = 90 from if_neg (fun k => by rw [p2] at k; exact Bool.noConfusion k.2.2))
        have hL := mload ((Below.heap_alloc ((w.alloc (.cells #[.int .i64 0, .int .i64 0, .int .i64 0, .int .i64 0, .int .i64 0, .int .i64 0, .int .i64 0, .slice none 0 0] 26)).alloc (.cells #[.int .u8 82, .int .u8 71, .int .u8 65, .int .u8 85] 5 (4, 5))) (.cells #[.int .u8 85, .int .u8 65, .int .u8 71, .int .u8 82] 5 (4, 5)) w.heap.size (by simp only [World.size_alloc]; omega)).trans ((Below.heap_alloc (w.alloc (.cells #[.int .i64 0, .int .i64 0, .int .i64 0, .int .i64 0, .int .i64 0, .int .i64 0, .int .i64 0, .slice none 0 0] 26)) (.cells #[.int .u8 82, .int .u8 71, .int .u8 65, .int .u8 85] 5 (4, 5)) w.heap.size (by simp only [World.size_alloc]; omega)).trans hr.out))
        go_enter Try.func17, Try.ntmps17
        go_wp2_with (go_at_call 39; first | ((with_reducible refine (hasPrefix_any A 256 c xs _ 4 4 magicL _ HM.out.1 HM.out.2).mono ?_); rintro e w2 ⟨rfl, rfl⟩; rw [p1]) | ((with_reducible refine (hasPrefix_any _ _ _ (xs.drop 248) _ 4 4 tailL _ HT.out.1 HT.out.2).mono ?_); rintro e w3 ⟨rfl, rfl⟩; rw [p2]))
        refine bodyPost_ret (v := .tuple #[.agg #[.int .i64 0, .int .i64 0, .int .i64 0, .int .i64 0, .int .i64 0, .int .i64 0, .int .i64 0, .slice none 0 0], .int .i64 90]) (by simp [results, Try.results17, asAddr, hL]) rfl ⟨(HB.out.alloc (by simp) _).alloc (by simp only [World.size_alloc]; omega) _, .inl ⟨by rw [hd.out]; decide, by rw [hd.out]⟩⟩
      | true =>
        have hd0 := Aside0.mk (show xs.length = 256 ∧ pre8 xs magicL = true ∧ pre8 (xs.drop 248) tailL = true from ⟨hln, p1, p2⟩)
        have hr3 := Aside0.mk ((Below.heap_alloc ((w.alloc (.cells #[.int .i64 0, .int .i64 0, .int .i64 0, .int .i64 0, .int .i64 0, .int .i64 0, .int .i64 0, .slice none 0 0] 26)).alloc (.cells #[.int .u8 82, .int .u8 71, .int .u8 65, .int .u8 85] 5 (4, 5))) (.cells #[.int .u8 85, .int .u8 65, .int .u8 71, .int .u8 82] 5 (4, 5)) w.heap.size (by simp only [World.size_alloc]; omega)).trans ((Below.heap_alloc (w.alloc (.cells #[.int .i64 0, .int .i64 0, .int .i64 0, .int .i64 0, .int .i64 0, .int .i64 0, .int .i64 0, .slice none 0 0] 26)) (.cells #[.int .u8 82, .int .u8 71, .int .u8 65, .int .u8 85] 5 (4, 5)) w.heap.size (by simp only [World.size_alloc]; omega)).trans hr.out))
        have HB3 := Aside0.mk ((HB.out.alloc (by simp) (.cells #[.int .u8 82, .int .u8 71, .int .u8 65, .int .u8 85] 5 (4, 5))).alloc (by simp only [World.size_alloc]; omega) (.cells #[.int .u8 85, .int .u8 65, .int .u8 71, .int .u8 82] 5 (4, 5)))
        have HS := Aside0.mk (((HX.out.alloc (.cells #[.int .i64 0, .int .i64 0, .int .i64 0, .int .i64 0, .int .i64 0, .int .i64 0, .int .i64 0, .slice none 0 0] 26)).alloc (.cells #[.int .u8 82, .int .u8 71, .int .u8 65, .int .u8 85] 5 (4, 5))).alloc (.cells #[.int .u8 85, .int .u8 65, .int .u8 71, .int .u8 82] 5 (4, 5)))
        obtain ⟨W, hW⟩ : ∃ W, (((w.alloc (.cells #[.int .i64 0, .int .i64 0, .int .i64 0, .int .i64 0, .int .i64 0, .int .i64 0, .int .i64 0, .slice none 0 0] 26)).alloc (.cells #[.int .u8 82, .int .u8 71, .int .u8 65, .int .u8 85] 5 (4, 5))).alloc (.cells #[.int .u8 85, .int .u8 65, .int .u8 71, .int .u8 82] 5 (4, 5))) = W := ⟨_, rfl⟩
        rw [hW] at hr3 HB3 HS HT
        by_cases p3 : sealB xs 252 = xs
        · have k3 : (decide ((0 : Int) ≤ 252 ∧ (252 : Int) ≤ ((256 : Nat) : Int) - 4) && sealB xs 252 == xs) = true := by rw [p3]; simp
          have q3 := Aside0.mk p3
          clear p3
          go_enter Try.func17, Try.ntmps17
          by_cases g1 : genB (rdGe xs) = true
          · by_cases g2 : rdTg xs ≤ 3
            · have d2 : decide (3 < rdTg xs) = false := decide_eq_false (by omega)
              have g12 := Aside0.mk (And.intro g1 g2)
              clear g2
              cases hR : mrightB (rdGe xs) (rdPh xs) (rdTg xs) (rdTx xs) (rdRt xs) (rdPg xs) (rdLi xs) (rdCu xs).length with
              | false =>
                have hd := Aside0.mk (show decE xs = 92 from by unfold decE; rw [if_pos hd0.out, if_pos q3.out, if_pos g12.out, if_neg (fun k => by rw [hR] at k; exact Bool.noConfusion k.1)])
                go_wp2_with (first | (go_at_call 39; first | ((with_reducible refine (hasPrefix_any A 256 c xs _ 4 4 magicL _ HM.out.1 HM.out.2).mono ?_); rintro e w2 ⟨rfl, rfl⟩; rw [p1]) | ((with_reducible refine (hasPrefix_any _ _ _ (xs.drop 248) _ 4 4 tailL _ HT.out.1 HT.out.2).mono ?_); rintro e w3 ⟨rfl, rfl⟩; rw [p2])) | (go_at_call 40; (with_reducible refine (sealed_any A 256 c xs 252 W HS.out).mono ?_); rintro e w4 ⟨rfl, hB4⟩; rw [k3]; (have H4 := Aside0.mk (And.intro (below_then HB3.out HB3.out.size hB4) ((hB4.block w.heap.size (Array.getElem?_eq_some_iff.1 hr3.out).1).trans hr3.out))); clear hB4; (have y := row8_cells H4.out.2); (obtain ⟨y0, y1, y2, y3, y4, y5, y6, y7⟩ := y); (have yf := fun j => Go.Joins.unfrozen_of_block H4.out.2 j)) | (go_at_call 41; (with_reducible refine (mread256 A c xs w4 (HX.out.below H4.out.1) hd0.out.1).mono ?_); rintro e w5 ⟨hB5, A1, c1, rfl, hO5⟩; (have H5 := Aside0.mk (And.intro (below_then H4.out.1 H4.out.1.size hB5) (And.intro ((hB5.block w.heap.size (Array.getElem?_eq_some_iff.1 H4.out.2).1).trans H4.out.2) hO5))); clear hB5 hO5; (have H6 := Aside0.mk (show MB w w5.heap.size A1 c1 xs (w5.alloc (.cells #[.int .i64 (rdGe xs), .int .i64 (rdPh xs), .int .i64 (rdTg xs), .int .i64 (rdTx xs), .int .i64 (rdRt xs), .int .i64 (rdPg xs), .int .i64 (rdLi xs), .slice A1 (rdCu xs).length c1] 26)) from ⟨H5.out.1.alloc H5.out.1.size _, (Below.heap_alloc _ _ _ (Array.getElem?_eq_some_iff.1 H5.out.2.1).1).trans H5.out.2.1, heap_alloc_new _ _, (H5.out.2.2.mono (Array.getElem?_eq_some_iff.1 H4.out.2).1).alloc _, (Array.getElem?_eq_some_iff.1 H5.out.2.1).1⟩)); (obtain ⟨w6, hw6⟩ : ∃ W, w5.alloc (.cells #[.int .i64 (rdGe xs), .int .i64 (rdPh xs), .int .i64 (rdTg xs), .int .i64 (rdTx xs), .int .i64 (rdRt xs), .int .i64 (rdPg xs), .int .i64 (rdLi xs), .slice A1 (rdCu xs).length c1] 26) = W := ⟨_, rfl⟩); rw [hw6] at H6; (have z := row8_cells H6.out.row); (obtain ⟨z0, z1, z2, z3, z4, z5, z6, z7⟩ := z); (have u := row8_cells H6.out.res); (obtain ⟨u0, u1, u2, u3, u4, u5, u6, u7⟩ := u); (have uf := fun j => Go.Joins.unfrozen_of_block H6.out.res j)) | (go_at_call 42; (with_reducible refine (gen_any (rdGe xs) w6).mono ?_); rintro e w7 ⟨rfl, rfl⟩; rw [g1]) | (go_at_call 10; (with_reducible refine (mencode_any (rdGe xs) (rdPh xs) (rdTg xs) (rdTx xs) (rdRt xs) (rdPg xs) (rdLi xs) A1 (rdCu xs).length c1 (rdCu xs) w6 H6.out.own.bs).mono ?_); rintro e w8 ⟨hB8, hc⟩; (have H8 := Aside0.mk (H6.out.step hB8)); clear hB8; (have hc := hc.resolve_right (fun k => Bool.noConfusion (hR.symm.trans k.1))); (obtain ⟨_, rfl⟩ := hc); (have r := row8_cells H8.out.res); (obtain ⟨r0, r1, r2, r3, r4, r5, r6, r7⟩ := r); (have rf := fun j => Go.Joins.unfrozen_of_block H8.out.res j); (have t := row8_cells H8.out.row); (obtain ⟨t0, t1, t2, t3, t4, t5, t6, t7⟩ := t)))
                have hL := mload (row8_set (.int .i64 0) (.int .i64 0) (.int .i64 0) (.int .i64 0) (.int .i64 0) (.int .i64 0) (.int .i64 0) (.slice none 0 0) H8.out.res)
                refine bodyPost_ret (v := .tuple #[.agg #[.int .i64 0, .int .i64 0, .int .i64 0, .int .i64 0, .int .i64 0, .int .i64 0, .int .i64 0, .slice none 0 0], .int .i64 92]) (by simp [results, Try.results17, asAddr, hL]) rfl ⟨below_set8 _ _ _ _ _ _ _ _ H8.out.bel (Nat.le_refl _), .inl ⟨by rw [hd.out]; decide, by rw [hd.out]⟩⟩
              | true =>
                cases hE : (encP (rdGe xs) (rdPh xs) (rdTg xs) (rdTx xs) (rdRt xs) (rdPg xs) (rdLi xs) (rdCu xs) == xs) with
                | false =>
                  have hd := Aside0.mk (show decE xs = 92 from by unfold decE; rw [if_pos hd0.out, if_pos q3.out, if_pos g12.out, if_neg (fun k => by rw [k.2, beq_self_eq_true] at hE; exact Bool.noConfusion hE)])
                  go_wp2_with (first | (go_at_call 39; first | ((with_reducible refine (hasPrefix_any A 256 c xs _ 4 4 magicL _ HM.out.1 HM.out.2).mono ?_); rintro e w2 ⟨rfl, rfl⟩; rw [p1]) | ((with_reducible refine (hasPrefix_any _ _ _ (xs.drop 248) _ 4 4 tailL _ HT.out.1 HT.out.2).mono ?_); rintro e w3 ⟨rfl, rfl⟩; rw [p2])) | (go_at_call 40; (with_reducible refine (sealed_any A 256 c xs 252 W HS.out).mono ?_); rintro e w4 ⟨rfl, hB4⟩; rw [k3]; (have H4 := Aside0.mk (And.intro (below_then HB3.out HB3.out.size hB4) ((hB4.block w.heap.size (Array.getElem?_eq_some_iff.1 hr3.out).1).trans hr3.out))); clear hB4; (have y := row8_cells H4.out.2); (obtain ⟨y0, y1, y2, y3, y4, y5, y6, y7⟩ := y); (have yf := fun j => Go.Joins.unfrozen_of_block H4.out.2 j)) | (go_at_call 41; (with_reducible refine (mread256 A c xs w4 (HX.out.below H4.out.1) hd0.out.1).mono ?_); rintro e w5 ⟨hB5, A1, c1, rfl, hO5⟩; (have H5 := Aside0.mk (And.intro (below_then H4.out.1 H4.out.1.size hB5) (And.intro ((hB5.block w.heap.size (Array.getElem?_eq_some_iff.1 H4.out.2).1).trans H4.out.2) hO5))); clear hB5 hO5; (have H6 := Aside0.mk (show MB w w5.heap.size A1 c1 xs (w5.alloc (.cells #[.int .i64 (rdGe xs), .int .i64 (rdPh xs), .int .i64 (rdTg xs), .int .i64 (rdTx xs), .int .i64 (rdRt xs), .int .i64 (rdPg xs), .int .i64 (rdLi xs), .slice A1 (rdCu xs).length c1] 26)) from ⟨H5.out.1.alloc H5.out.1.size _, (Below.heap_alloc _ _ _ (Array.getElem?_eq_some_iff.1 H5.out.2.1).1).trans H5.out.2.1, heap_alloc_new _ _, (H5.out.2.2.mono (Array.getElem?_eq_some_iff.1 H4.out.2).1).alloc _, (Array.getElem?_eq_some_iff.1 H5.out.2.1).1⟩)); (obtain ⟨w6, hw6⟩ : ∃ W, w5.alloc (.cells #[.int .i64 (rdGe xs), .int .i64 (rdPh xs), .int .i64 (rdTg xs), .int .i64 (rdTx xs), .int .i64 (rdRt xs), .int .i64 (rdPg xs), .int .i64 (rdLi xs), .slice A1 (rdCu xs).length c1] 26) = W := ⟨_, rfl⟩); rw [hw6] at H6; (have z := row8_cells H6.out.row); (obtain ⟨z0, z1, z2, z3, z4, z5, z6, z7⟩ := z); (have u := row8_cells H6.out.res); (obtain ⟨u0, u1, u2, u3, u4, u5, u6, u7⟩ := u); (have uf := fun j => Go.Joins.unfrozen_of_block H6.out.res j)) | (go_at_call 42; (with_reducible refine (gen_any (rdGe xs) w6).mono ?_); rintro e w7 ⟨rfl, rfl⟩; rw [g1]) | (go_at_call 10; (with_reducible refine (mencode_any (rdGe xs) (rdPh xs) (rdTg xs) (rdTx xs) (rdRt xs) (rdPg xs) (rdLi xs) A1 (rdCu xs).length c1 (rdCu xs) w6 H6.out.own.bs).mono ?_); rintro e w8 ⟨hB8, hc⟩; (have H8 := Aside0.mk (H6.out.step hB8)); clear hB8; (have hc := hc.resolve_left (fun k => Bool.noConfusion (hR.symm.trans k.1))); (obtain ⟨_, A2, c2, rfl, hO2⟩ := hc); (have HO := Aside0.mk hO2); clear hO2; (have r := row8_cells H8.out.res); (obtain ⟨r0, r1, r2, r3, r4, r5, r6, r7⟩ := r); (have rf := fun j => Go.Joins.unfrozen_of_block H8.out.res j); (have t := row8_cells H8.out.row); (obtain ⟨t0, t1, t2, t3, t4, t5, t6, t7⟩ := t)) | (go_at_call 12; (with_reducible refine (equal8_any _ _ _ _ A 256 c xs w8 HO.out.bs (HX.out.below H8.out.bel)).mono ?_); rintro e w9 ⟨rfl, rfl⟩; rw [hE]))
                  have hL := mload (row8_set (.int .i64 0) (.int .i64 0) (.int .i64 0) (.int .i64 0) (.int .i64 0) (.int .i64 0) (.int .i64 0) (.slice none 0 0) H8.out.res)
                  refine bodyPost_ret (v := .tuple #[.agg #[.int .i64 0, .int .i64 0, .int .i64 0, .int .i64 0, .int .i64 0, .int .i64 0, .int .i64 0, .slice none 0 0], .int .i64 92]) (by simp [results, Try.results17, asAddr, hL]) rfl ⟨below_set8 _ _ _ _ _ _ _ _ H8.out.bel (Nat.le_refl _), .inl ⟨by rw [hd.out]; decide, by rw [hd.out]⟩⟩
                | true =>
                  have hd := Aside0.mk (show decE xs = 0 from by unfold decE; rw [if_pos hd0.out, if_pos q3.out, if_pos g12.out, if_pos ⟨hR, beq_iff_eq.1 hE⟩])
                  go_wp2_with (first | (go_at_call 39; first | ((with_reducible refine (hasPrefix_any A 256 c xs _ 4 4 magicL _ HM.out.1 HM.out.2).mono ?_); rintro e w2 ⟨rfl, rfl⟩; rw [p1]) | ((with_reducible refine (hasPrefix_any _ _ _ (xs.drop 248) _ 4 4 tailL _ HT.out.1 HT.out.2).mono ?_); rintro e w3 ⟨rfl, rfl⟩; rw [p2])) | (go_at_call 40; (with_reducible refine (sealed_any A 256 c xs 252 W HS.out).mono ?_); rintro e w4 ⟨rfl, hB4⟩; rw [k3]; (have H4 := Aside0.mk (And.intro (below_then HB3.out HB3.out.size hB4) ((hB4.block w.heap.size (Array.getElem?_eq_some_iff.1 hr3.out).1).trans hr3.out))); clear hB4; (have y := row8_cells H4.out.2); (obtain ⟨y0, y1, y2, y3, y4, y5, y6, y7⟩ := y); (have yf := fun j => Go.Joins.unfrozen_of_block H4.out.2 j)) | (go_at_call 41; (with_reducible refine (mread256 A c xs w4 (HX.out.below H4.out.1) hd0.out.1).mono ?_); rintro e w5 ⟨hB5, A1, c1, rfl, hO5⟩; (have H5 := Aside0.mk (And.intro (below_then H4.out.1 H4.out.1.size hB5) (And.intro ((hB5.block w.heap.size (Array.getElem?_eq_some_iff.1 H4.out.2).1).trans H4.out.2) hO5))); clear hB5 hO5; (have H6 := Aside0.mk (show MB w w5.heap.size A1 c1 xs (w5.alloc (.cells #[.int .i64 (rdGe xs), .int .i64 (rdPh xs), .int .i64 (rdTg xs), .int .i64 (rdTx xs), .int .i64 (rdRt xs), .int .i64 (rdPg xs), .int .i64 (rdLi xs), .slice A1 (rdCu xs).length c1] 26)) from ⟨H5.out.1.alloc H5.out.1.size _, (Below.heap_alloc _ _ _ (Array.getElem?_eq_some_iff.1 H5.out.2.1).1).trans H5.out.2.1, heap_alloc_new _ _, (H5.out.2.2.mono (Array.getElem?_eq_some_iff.1 H4.out.2).1).alloc _, (Array.getElem?_eq_some_iff.1 H5.out.2.1).1⟩)); (obtain ⟨w6, hw6⟩ : ∃ W, w5.alloc (.cells #[.int .i64 (rdGe xs), .int .i64 (rdPh xs), .int .i64 (rdTg xs), .int .i64 (rdTx xs), .int .i64 (rdRt xs), .int .i64 (rdPg xs), .int .i64 (rdLi xs), .slice A1 (rdCu xs).length c1] 26) = W := ⟨_, rfl⟩); rw [hw6] at H6; (have z := row8_cells H6.out.row); (obtain ⟨z0, z1, z2, z3, z4, z5, z6, z7⟩ := z); (have u := row8_cells H6.out.res); (obtain ⟨u0, u1, u2, u3, u4, u5, u6, u7⟩ := u); (have uf := fun j => Go.Joins.unfrozen_of_block H6.out.res j)) | (go_at_call 42; (with_reducible refine (gen_any (rdGe xs) w6).mono ?_); rintro e w7 ⟨rfl, rfl⟩; rw [g1]) | (go_at_call 10; (with_reducible refine (mencode_any (rdGe xs) (rdPh xs) (rdTg xs) (rdTx xs) (rdRt xs) (rdPg xs) (rdLi xs) A1 (rdCu xs).length c1 (rdCu xs) w6 H6.out.own.bs).mono ?_); rintro e w8 ⟨hB8, hc⟩; (have H8 := Aside0.mk (H6.out.step hB8)); clear hB8; (have hc := hc.resolve_left (fun k => Bool.noConfusion (hR.symm.trans k.1))); (obtain ⟨_, A2, c2, rfl, hO2⟩ := hc); (have HO := Aside0.mk hO2); clear hO2; (have r := row8_cells H8.out.res); (obtain ⟨r0, r1, r2, r3, r4, r5, r6, r7⟩ := r); (have rf := fun j => Go.Joins.unfrozen_of_block H8.out.res j); (have t := row8_cells H8.out.row); (obtain ⟨t0, t1, t2, t3, t4, t5, t6, t7⟩ := t)) | (go_at_call 12; (with_reducible refine (equal8_any _ _ _ _ A 256 c xs w8 HO.out.bs (HX.out.below H8.out.bel)).mono ?_); rintro e w9 ⟨rfl, rfl⟩; rw [hE]))
                  have hL := mload (row8_set (.int .i64 (rdGe xs)) (.int .i64 (rdPh xs)) (.int .i64 (rdTg xs)) (.int .i64 (rdTx xs)) (.int .i64 (rdRt xs)) (.int .i64 (rdPg xs)) (.int .i64 (rdLi xs)) (.slice A1 (rdCu xs).length c1) H8.out.res)
                  refine bodyPost_ret (v := .tuple #[.agg #[.int .i64 (rdGe xs), .int .i64 (rdPh xs), .int .i64 (rdTg xs), .int .i64 (rdTx xs), .int .i64 (rdRt xs), .int .i64 (rdPg xs), .int .i64 (rdLi xs), .slice A1 (rdCu xs).length c1], .int .i64 0]) (by simp [results, Try.results17, asAddr, hL]) rfl ⟨below_set8 _ _ _ _ _ _ _ _ H8.out.bel (Nat.le_refl _), .inr ⟨hd.out, A1, c1, rfl, (H8.out.own.only_lo (only_set8 _ _ _ _ _ _ _ _) (Nat.lt_succ_self _)).mono (Nat.le_succ _)⟩⟩
            · have d2 : decide (3 < rdTg xs) = true := decide_eq_true (by omega)
              have hd := Aside0.mk (show decE xs = 93 from by unfold decE; rw [if_pos hd0.out, if_pos q3.out, if_neg (fun k => g2 k.2)])
              clear g2
              go_wp2_with (first | (go_at_call 39; first | ((with_reducible refine (hasPrefix_any A 256 c xs _ 4 4 magicL _ HM.out.1 HM.out.2).mono ?_); rintro e w2 ⟨rfl, rfl⟩; rw [p1]) | ((with_reducible refine (hasPrefix_any _ _ _ (xs.drop 248) _ 4 4 tailL _ HT.out.1 HT.out.2).mono ?_); rintro e w3 ⟨rfl, rfl⟩; rw [p2])) | (go_at_call 40; (with_reducible refine (sealed_any A 256 c xs 252 W HS.out).mono ?_); rintro e w4 ⟨rfl, hB4⟩; rw [k3]; (have H4 := Aside0.mk (And.intro (below_then HB3.out HB3.out.size hB4) ((hB4.block w.heap.size (Array.getElem?_eq_some_iff.1 hr3.out).1).trans hr3.out))); clear hB4; (have y := row8_cells H4.out.2); (obtain ⟨y0, y1, y2, y3, y4, y5, y6, y7⟩ := y); (have yf := fun j => Go.Joins.unfrozen_of_block H4.out.2 j)) | (go_at_call 41; (with_reducible refine (mread256 A c xs w4 (HX.out.below H4.out.1) hd0.out.1).mono ?_); rintro e w5 ⟨hB5, A1, c1, rfl, hO5⟩; (have H5 := Aside0.mk (And.intro (below_then H4.out.1 H4.out.1.size hB5) (And.intro ((hB5.block w.heap.size (Array.getElem?_eq_some_iff.1 H4.out.2).1).trans H4.out.2) hO5))); clear hB5 hO5; (have H6 := Aside0.mk (show MB w w5.heap.size A1 c1 xs (w5.alloc (.cells #[.int .i64 (rdGe xs), .int .i64 (rdPh xs), .int .i64 (rdTg xs), .int .i64 (rdTx xs), .int .i64 (rdRt xs), .int .i64 (rdPg xs), .int .i64 (rdLi xs), .slice A1 (rdCu xs).length c1] 26)) from ⟨H5.out.1.alloc H5.out.1.size _, (Below.heap_alloc _ _ _ (Array.getElem?_eq_some_iff.1 H5.out.2.1).1).trans H5.out.2.1, heap_alloc_new _ _, (H5.out.2.2.mono (Array.getElem?_eq_some_iff.1 H4.out.2).1).alloc _, (Array.getElem?_eq_some_iff.1 H5.out.2.1).1⟩)); (obtain ⟨w6, hw6⟩ : ∃ W, w5.alloc (.cells #[.int .i64 (rdGe xs), .int .i64 (rdPh xs), .int .i64 (rdTg xs), .int .i64 (rdTx xs), .int .i64 (rdRt xs), .int .i64 (rdPg xs), .int .i64 (rdLi xs), .slice A1 (rdCu xs).length c1] 26) = W := ⟨_, rfl⟩); rw [hw6] at H6; (have z := row8_cells H6.out.row); (obtain ⟨z0, z1, z2, z3, z4, z5, z6, z7⟩ := z); (have u := row8_cells H6.out.res); (obtain ⟨u0, u1, u2, u3, u4, u5, u6, u7⟩ := u); (have uf := fun j => Go.Joins.unfrozen_of_block H6.out.res j)) | (go_at_call 42; (with_reducible refine (gen_any (rdGe xs) w6).mono ?_); rintro e w7 ⟨rfl, rfl⟩; rw [g1]))
              have hL := mload (row8_set (.int .i64 0) (.int .i64 0) (.int .i64 0) (.int .i64 0) (.int .i64 0) (.int .i64 0) (.int .i64 0) (.slice none 0 0) H6.out.res)
              refine bodyPost_ret (v := .tuple #[.agg #[.int .i64 0, .int .i64 0, .int .i64 0, .int .i64 0, .int .i64 0, .int .i64 0, .int .i64 0, .slice none 0 0], .int .i64 93]) (by simp [results, Try.results17, asAddr, hL]) rfl ⟨below_set8 _ _ _ _ _ _ _ _ H6.out.bel (Nat.le_refl _), .inl ⟨by rw [hd.out]; decide, by rw [hd.out]⟩⟩
          · have g1' : genB (rdGe xs) = false := Bool.eq_false_iff.2 g1
            have hd := Aside0.mk (show decE xs = 93 from by unfold decE; rw [if_pos hd0.out, if_pos q3.out, if_neg (fun k => g1 k.1)])
            clear g1
            go_wp2_with (first | (go_at_call 39; first | ((with_reducible refine (hasPrefix_any A 256 c xs _ 4 4 magicL _ HM.out.1 HM.out.2).mono ?_); rintro e w2 ⟨rfl, rfl⟩; rw [p1]) | ((with_reducible refine (hasPrefix_any _ _ _ (xs.drop 248) _ 4 4 tailL _ HT.out.1 HT.out.2).mono ?_); rintro e w3 ⟨rfl, rfl⟩; rw [p2])) | (go_at_call 40; (with_reducible refine (sealed_any A 256 c xs 252 W HS.out).mono ?_); rintro e w4 ⟨rfl, hB4⟩; rw [k3]; (have H4 := Aside0.mk (And.intro (below_then HB3.out HB3.out.size hB4) ((hB4.block w.heap.size (Array.getElem?_eq_some_iff.1 hr3.out).1).trans hr3.out))); clear hB4; (have y := row8_cells H4.out.2); (obtain ⟨y0, y1, y2, y3, y4, y5, y6, y7⟩ := y); (have yf := fun j => Go.Joins.unfrozen_of_block H4.out.2 j)) | (go_at_call 41; (with_reducible refine (mread256 A c xs w4 (HX.out.below H4.out.1) hd0.out.1).mono ?_); rintro e w5 ⟨hB5, A1, c1, rfl, hO5⟩; (have H5 := Aside0.mk (And.intro (below_then H4.out.1 H4.out.1.size hB5) (And.intro ((hB5.block w.heap.size (Array.getElem?_eq_some_iff.1 H4.out.2).1).trans H4.out.2) hO5))); clear hB5 hO5; (have H6 := Aside0.mk (show MB w w5.heap.size A1 c1 xs (w5.alloc (.cells #[.int .i64 (rdGe xs), .int .i64 (rdPh xs), .int .i64 (rdTg xs), .int .i64 (rdTx xs), .int .i64 (rdRt xs), .int .i64 (rdPg xs), .int .i64 (rdLi xs), .slice A1 (rdCu xs).length c1] 26)) from ⟨H5.out.1.alloc H5.out.1.size _, (Below.heap_alloc _ _ _ (Array.getElem?_eq_some_iff.1 H5.out.2.1).1).trans H5.out.2.1, heap_alloc_new _ _, (H5.out.2.2.mono (Array.getElem?_eq_some_iff.1 H4.out.2).1).alloc _, (Array.getElem?_eq_some_iff.1 H5.out.2.1).1⟩)); (obtain ⟨w6, hw6⟩ : ∃ W, w5.alloc (.cells #[.int .i64 (rdGe xs), .int .i64 (rdPh xs), .int .i64 (rdTg xs), .int .i64 (rdTx xs), .int .i64 (rdRt xs), .int .i64 (rdPg xs), .int .i64 (rdLi xs), .slice A1 (rdCu xs).length c1] 26) = W := ⟨_, rfl⟩); rw [hw6] at H6; (have z := row8_cells H6.out.row); (obtain ⟨z0, z1, z2, z3, z4, z5, z6, z7⟩ := z); (have u := row8_cells H6.out.res); (obtain ⟨u0, u1, u2, u3, u4, u5, u6, u7⟩ := u); (have uf := fun j => Go.Joins.unfrozen_of_block H6.out.res j)) | (go_at_call 42; (with_reducible refine (gen_any (rdGe xs) w6).mono ?_); rintro e w7 ⟨rfl, rfl⟩; rw [g1']))
            have hL := mload (row8_set (.int .i64 0) (.int .i64 0) (.int .i64 0) (.int .i64 0) (.int .i64 0) (.int .i64 0) (.int .i64 0) (.slice none 0 0) H6.out.res)
            refine bodyPost_ret (v := .tuple #[.agg #[.int .i64 0, .int .i64 0, .int .i64 0, .int .i64 0, .int .i64 0, .int .i64 0, .int .i64 0, .slice none 0 0], .int .i64 93]) (by simp [results, Try.results17, asAddr, hL]) rfl ⟨below_set8 _ _ _ _ _ _ _ _ H6.out.bel (Nat.le_refl _), .inl ⟨by rw [hd.out]; decide, by rw [hd.out]⟩⟩
        · have k3 : (decide ((0 : Int) ≤ 252 ∧ (252 : Int) ≤ ((256 : Nat) : Int) - 4) && sealB xs 252 == xs) = false := by
            rw [beq_eq_false_iff_ne.2 p3, Bool.and_false]
          have hd := Aside0.mk (show decE xs = 91 from by unfold decE; rw [if_pos hd0.out, if_neg p3])
          clear p3
          go_enter Try.func17, Try.ntmps17
          go_wp2_with (first | (go_at_call 39; first | ((with_reducible refine (hasPrefix_any A 256 c xs _ 4 4 magicL _ HM.out.1 HM.out.2).mono ?_); rintro e w2 ⟨rfl, rfl⟩; rw [p1]) | ((with_reducible refine (hasPrefix_any _ _ _ (xs.drop 248) _ 4 4 tailL _ HT.out.1 HT.out.2).mono ?_); rintro e w3 ⟨rfl, rfl⟩; rw [p2])) | (go_at_call 40; (with_reducible refine (sealed_any A 256 c xs 252 W HS.out).mono ?_); rintro e w4 ⟨rfl, hB4⟩; rw [k3]; (have H4 := Aside0.mk (And.intro (below_then HB3.out HB3.out.size hB4) ((hB4.block w.heap.size (Array.getElem?_eq_some_iff.1 hr3.out).1).trans hr3.out))); clear hB4; (have y := row8_cells H4.out.2); (obtain ⟨y0, y1, y2, y3, y4, y5, y6, y7⟩ := y); (have yf := fun j => Go.Joins.unfrozen_of_block H4.out.2 j)))
          have hL := mload (row8_set (.int .i64 0) (.int .i64 0) (.int .i64 0) (.int .i64 0) (.int .i64 0) (.int .i64 0) (.int .i64 0) (.slice none 0 0) H4.out.2)
          refine bodyPost_ret (v := .tuple #[.agg #[.int .i64 0, .int .i64 0, .int .i64 0, .int .i64 0, .int .i64 0, .int .i64 0, .int .i64 0, .slice none 0 0], .int .i64 91]) (by simp [results, Try.results17, asAddr, hL]) rfl ⟨below_set8 _ _ _ _ _ _ _ _ H4.out.1 (Nat.le_refl _), .inl ⟨by rw [hd.out]; decide, by rw [hd.out]⟩⟩
  · have q : ((n : Int) == 256) = false := beq_eq_false_iff_ne.2 (by omega)
    have hd := Aside0.mk (show decE xs = 90 from if_neg (fun k => by omega))
    have hL := mload hr.out
    go_enter Try.func17, Try.ntmps17
    go_wp2
    refine bodyPost_ret (v := .tuple #[.agg #[.int .i64 0, .int .i64 0, .int .i64 0, .int .i64 0, .int .i64 0, .int .i64 0, .int .i64 0, .slice none 0 0], .int .i64 90]) (by simp [results, Try.results17, asAddr, hL]) rfl ⟨HB.out, .inl ⟨by rw [hd.out]; decide, by rw [hd.out]⟩⟩

end Go.Proofs.Ytenibcbodjkglaa
