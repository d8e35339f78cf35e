/- The walks of regaugeref09's number, and what its Decode reads. The walk of regaugeref09's Decode. -/
import Derived.Test.YthhalmjapiempaaZ8
import Derived.Test.YthhalmjapiempaaZ7
set_option linter.unusedVariables false
set_option linter.unusedSimpArgs false
namespace Go.Proofs.Ythhalmjapiempaa
open Go.RowKit

def numR (xs : List UInt8) : Int := if leN (xs.drop 1) ≤ 1099511627776 then (leN xs : Int) else -1
theorem leN_drop_le (xs : List UInt8) (j : Nat) : leN (xs.drop j) ≤ leN xs := by
  induction xs generalizing j with
  | nil => simp
  | cons x t ih =>
    cases j with
    | zero => exact Nat.le_refl _
    | succ j => rw [List.drop_succ_cons]; have := ih j; rw [leN]; omega
theorem leN_step (xs : List UInt8) (j : Nat) (h : j < xs.length) : (leN (xs.drop j) : Int) = (leN (xs.drop (j + 1)) : Int) * 256 + b8 xs j := by
  rw [List.drop_eq_getElem_cons h, leN]
  simp [b8, List.getD_eq_getElem?_getD, List.getElem?_eq_getElem h]
  omega
set_option maxHeartbeats 1000000 in
set_option maxRecDepth 100000 in
theorem number_any (A : Option Addr) (n c : Nat) (xs : List UInt8) (w : World) (hb : Bs w A n c xs) (h8 : n ≤ 8) :
    Calls Try.prog 102 #[.slice A n c] w fun e w' => e = .returned (.int .i64 (numR xs)) ∧ w = w' := by
  have hlim := hb.lim
  go_enter Try.func102, Try.ntmps102
  go_wp2_with fail
  go_loopg [3, 4] n (fun g v2 v3 wr => ∃ k, Aside0 (g = k) ∧ wr = w ∧ v3 = .int .i64 ((k : Int) - 1) ∧ Aside (k ≤ n) ∧ v2 = .int .i64 (leN (xs.drop k) : Int) ∧ Aside0 (k + 1 ≤ n → leN (xs.drop (k + 1)) ≤ 1099511627776))
  case atStart => exact ⟨n, ⟨rfl⟩, rfl, rfl, Nat.le_refl _, by rw [← hb.len, List.drop_length]; rfl, ⟨fun h => absurd h (by omega)⟩⟩
  case round =>
    obtain ⟨k, hg, rfl, rfl, hk, rfl, hI⟩ := hrel
    rcases Nat.eq_zero_or_pos k with rfl | hp
    · go_wp2_with fail
      go_ret
      refine ⟨ret_int ?_, rfl⟩
      unfold numR
      rcases Nat.eq_zero_or_pos n with h0 | h0
      · have : xs = [] := List.eq_nil_of_length_eq_zero (by rw [hb.len, h0])
        subst this
        rfl
      · rw [if_pos (hI.out (by omega)), List.drop_zero]
    · obtain ⟨k, rfl⟩ : ∃ j, k = j + 1 := ⟨k - 1, by omega⟩
      have hkn : k < n := by have := hk.out; omega
      have i0 : ((k + 1 : Nat) : Int) - 1 = (k : Int) := by omega
      obtain ⟨ad, rfl, hx⟩ := hb.atN k hkn
      have hx0 := b8_lo xs k
      have hx1 := b8_hi xs k
      obtain ⟨q, hq⟩ : ∃ q, leN (xs.drop (k + 1)) = q := ⟨_, rfl⟩
      have hs := Aside0.mk (leN_step xs k (by rw [hb.len]; exact hkn))
      by_cases hbig : q ≤ 1099511627776
      · have f1 : decide (1099511627776 < (q : Int)) = false := decide_eq_false (by omega)
        rw [hq, i0]
        rw [hq] at hs
        go_wp2_with fail
        go_roundg k
        case measure => have := hg.out; omega
        case rel => exact ⟨k, ⟨rfl⟩, rfl, by go_num, Nat.le_of_lt hkn, by rw [hs.out], ⟨fun _ => by rw [hq]; exact hbig⟩⟩
      · have f1 : decide (1099511627776 < (q : Int)) = true := decide_eq_true (by omega)
        rw [hq, i0]
        go_wp2_with fail
        go_ret
        refine ⟨ret_int ?_, rfl⟩
        have hm := leN_drop_le (xs.drop 1) k
        rw [List.drop_drop, show 1 + k = k + 1 by omega, hq] at hm
        unfold numR
        rw [if_neg (by omega)]

theorem rmload {W : World} {g : Nat} {a b c d e f k i : Value} (h : W.heap[g]? = some (.cells #[a, b, c, d, e, f, k, i] 24)) : (loadVar 24 ⟨g, 0, none⟩).run Try.prog W = .ok (.agg #[a, b, c, d, e, f, k, i]) W :=
  run_loadVar_row W g 24 24 _ (0, 0) _ h Try.underlying24 rfl (by kernel_rfl)

def rfW (xs : List UInt8) : Nat := (iwI (b8 xs 4)).toNat
def rfN (xs : List UInt8) (k : Nat) : Int := numR ((xs.drop (8 + k * rfW xs)).take (rfW xs))
def rfEnd (xs : List UInt8) : Nat := 8 + 4 * rfW xs + (b8 xs 7).toNat
def rfCu (xs : List UInt8) : List UInt8 := (xs.drop (8 + 4 * rfW xs)).take (b8 xs 7).toNat
def rfZ (xs : List UInt8) : Bool := ((xs.take 248).drop (rfEnd xs)).all (fun b => b == 0)
def rfA (A : Option Addr) (c : Nat) (xs : List UInt8) : Option Addr := cutA A c (8 + 4 * rfW xs)
def rfC (c : Nat) (xs : List UInt8) : Nat := c - (8 + 4 * rfW xs)
theorem rfZ_iff (xs : List UInt8) (h : xs.length = 256) : rfZ xs = true ↔ ∀ i, rfEnd xs ≤ i → i < 248 → b8 xs i = 0 := by
  unfold rfZ
  rw [List.all_eq_true]
  constructor
  · intro k i h1 h2
    have hg : xs.getD i 0 ∈ (xs.take 248).drop (rfEnd xs) := by
      refine List.mem_iff_getElem.2 ⟨i - rfEnd xs, by simp only [List.length_drop, List.length_take]; omega, ?_⟩
      rw [List.getElem_drop, List.getElem_take, List.getD_eq_getElem?_getD, List.getElem?_eq_getElem (by omega)]
      simp only [Option.getD_some, show rfEnd xs + (i - rfEnd xs) = i by omega]
    have hz := beq_iff_eq.1 (k _ hg)
    unfold b8
    rw [hz]
    rfl
  · intro k b hb
    obtain ⟨i, hi, rfl⟩ := List.mem_iff_getElem.1 hb
    simp only [List.length_drop, List.length_take] at hi
    have hz := k (rfEnd xs + i) (by omega) (by omega)
    unfold b8 at hz
    rw [List.getD_eq_getElem?_getD, List.getElem?_eq_getElem (by omega)] at hz
    rw [List.getElem_drop, List.getElem_take]
    exact beq_iff_eq.2 (UInt8.toNat_inj.1 (by simpa using hz))
/-- Why the reference's Decode says no; 0: it does not. -/
def refE (xs : List UInt8) : Int :=
  if xs.length = 256 ∧ xs.take 4 = magicL ∧ (xs.take 252).drop 248 = tailL then
    if rsealB xs 252 = xs then
      if 1 ≤ b8 xs 4 ∧ b8 xs 4 ≤ 3 ∧ b8 xs 6 ≤ 3 then
        if rfEnd xs ≤ 248 ∧ rfZ xs = true ∧ mrightB (b8 xs 4) (b8 xs 5) (b8 xs 6) (rfN xs 0) (rfN xs 1) (rfN xs 2) (rfN xs 3) (rfCu xs).length = true then 0 else 92
      else 93
    else 91
  else 90
theorem ref_ok {xs : List UInt8} (h : refE xs = 0) : xs.length = 256 ∧ xs.take 4 = magicL ∧ (xs.take 252).drop 248 = tailL ∧ rsealB xs 252 = xs ∧ 1 ≤ b8 xs 4 ∧ b8 xs 4 ≤ 3 ∧ b8 xs 6 ≤ 3 ∧ rfEnd xs ≤ 248 ∧ rfZ xs = true ∧ mrightB (b8 xs 4) (b8 xs 5) (b8 xs 6) (rfN xs 0) (rfN xs 1) (rfN xs 2) (rfN xs 3) (rfCu xs).length = true := by
  unfold refE at h
  split at h
  · rename_i h1
    split at h
    · rename_i h2
      split at h
      · rename_i h3
        split at h
        · rename_i h4
          exact ⟨h1.1, h1.2.1, h1.2.2, h2, h3.1, h3.2.1, h3.2.2, h4.1, h4.2.1, h4.2.2⟩
        · omega
      · omega
    · omega
  · omega
theorem rfCu_bs {W : World} {A : Option Addr} {n c : Nat} {xs : List UInt8} (h : refE xs = 0) (hb : Bs W A n c xs) : Bs W (rfA A c xs) (rfCu xs).length (rfC c xs) (rfCu xs) := by
  obtain ⟨h1, _, _, _, _, _, _, h2, _⟩ := ref_ok h
  have hl := hb.len
  unfold rfEnd at h2
  have hk := (hb.drop (8 + 4 * rfW xs) (by omega)).take (b8 xs 7).toNat (by omega)
  have hc : (rfCu xs).length = (b8 xs 7).toNat := by unfold rfCu; rw [List.length_take, List.length_drop]; omega
  rw [hc]
  exact hk
/-- The reference's meta in its box, as Decode fills it. -/
structure NB (w : World) (g : Nat) (u : Array Value) (W : World) : Prop where
  bel : Below w.heap.size w W
  res : W.heap[w.heap.size]? = some (.cells #[.int .i64 0, .int .i64 0, .int .i64 0, .int .i64 0, .int .i64 0, .int .i64 0, .int .i64 0, .slice none 0 0] 24)
  row : W.heap[g]? = some (.cells u 24)
  lo : w.heap.size < g
theorem NB.step {w W W1 : World} {g : Nat} {u : Array Value} (h : NB w g u W) (hB : Below W.heap.size W W1) : NB w g u W1 :=
  ⟨below_then h.bel h.bel.size hB, (hB.block _ (Array.getElem?_eq_some_iff.1 h.res).1).trans h.res, (hB.block _ (Array.getElem?_eq_some_iff.1 h.row).1).trans h.row, h.lo⟩
theorem NB.set {w W : World} {g : Nat} {u : Array Value} (h : NB w g u W) (j : Nat) (v : Value) : NB w g (u.setIfInBounds j v) (W.setCell ⟨g, j, none⟩ v) :=
  ⟨below_set _ h.bel (Nat.le_of_lt h.lo), (((OnlyB.refl g W).set j v).block _ (Array.getElem?_eq_some_iff.1 h.res).1 (Nat.ne_of_lt h.lo)).trans h.res, heap_setCell_same W g j _ _ v h.row, h.lo⟩

end Go.Proofs.Ythhalmjapiempaa

set_option linter.unusedVariables false
set_option linter.unusedSimpArgs false
namespace Go.Proofs.Ythhalmjapiempaa
open Go.RowKit

set_option maxHeartbeats 40000000 in
set_option maxRecDepth 100000 in
theorem rdecode_any (A : Option Addr) (n c : Nat) (xs : List UInt8) (w : World) (hb : Bs w A n c xs) :
    Calls Try.prog 85 #[.slice A n c] w fun e w' => Below w.heap.size w w' ∧ ((refE xs ≠ 0 ∧ e = .returned (.tuple #[.agg #[.int .i64 0, .int .i64 0, .int .i64 0, .int .i64 0, .int .i64 0, .int .i64 0, .int .i64 0, .slice none 0 0], .int .i64 (refE xs)])) ∨ (refE xs = 0 ∧ e = .returned (.tuple #[.agg #[.int .i64 (b8 xs 4), .int .i64 (b8 xs 5), .int .i64 (b8 xs 6), .int .i64 (rfN xs 0), .int .i64 (rfN xs 1), .int .i64 (rfN xs 2), .int .i64 (rfN xs 3), .slice (rfA A c xs) (rfCu xs).length (rfC c xs)], .int .i64 0]))) := by
  have hln := hb.len
  have hlim := hb.lim
  have hnc := hb.le
  have hr := Aside0.mk (heap_alloc_new w (.cells #[.int .i64 0, .int .i64 0, .int .i64 0, .int .i64 0, .int .i64 0, .int .i64 0, .int .i64 0, .slice none 0 0] 24))
  have HB := Aside0.mk ((Below.refl w.heap.size w).alloc (Nat.le_refl _) (.cells #[.int .i64 0, .int .i64 0, .int .i64 0, .int .i64 0, .int .i64 0, .int .i64 0, .int .i64 0, .slice none 0 0] 24))
  by_cases h256 : n = 256
  · subst h256
    have s1 : ∀ W : World, (Instr.slice 22 (.slice A 256 c) none (some (.int .i64 4)) none).run Try.prog W = .ok (.slice A 4 c) W := fun W => by
      rw [sl8_h W A 256 c .i64 4 (by omega) (by omega)]
      rfl
    have s2 : ∀ W : World, (Instr.slice 22 (.slice A 256 c) (some (.int .i64 248)) (some (.int .i64 252)) none).run Try.prog W = .ok (.slice (cutA A c 248) 4 (c - 248)) W := fun W => by
      rw [sl8_lh W A 256 c .i64 .i64 248 252 (by omega) (by omega) (by omega)]
      rfl
    have cv1 := conv8 ((hb.alloc (.cells #[.int .i64 0, .int .i64 0, .int .i64 0, .int .i64 0, .int .i64 0, .int .i64 0, .int .i64 0, .slice none 0 0] 24)).take 4 (by omega))
    have cv2 := conv8 (((hb.alloc (.cells #[.int .i64 0, .int .i64 0, .int .i64 0, .int .i64 0, .int .i64 0, .int .i64 0, .int .i64 0, .slice none 0 0] 24)).take 252 (by omega)).drop 248 (by omega))
    have HX := Aside0.mk hb
    clear hb
    cases p1 : (xs.take 4 == magicL) with
    | false =>
      have f1 : ((strB (xs.take 4)).toList == [82, 71, 65, 85]) = false := by rw [strB_list]; exact p1
      have hd := Aside0.mk (show refE xs = 90 from if_neg (fun k => by rw [k.2.1, beq_self_eq_true] at p1; exact Bool.noConfusion p1))
      have hL := rmload hr.out
      clear p1
      go_enter Try.func85, Try.ntmps85
      go_wp2
      refine bodyPost_ret (v := .tuple #[.agg #[.int .i64 0, .int .i64 0, .int .i64 0, .int .i64 0, .int .i64 0, .int .i64 0, .int .i64 0, .slice none 0 0], .int .i64 90]) (by simp [results, Try.results85, asAddr, hL]) rfl ⟨HB.out, .inl ⟨by rw [hd.out]; decide, by rw [hd.out]⟩⟩
    | true =>
      have f1 : ((strB (xs.take 4)).toList == [82, 71, 65, 85]) = true := by rw [strB_list]; exact p1
      cases p2 : ((xs.take 252).drop 248 == tailL) with
      | false =>
        have f2 : ((strB ((xs.take 252).drop 248)).toList == [85, 65, 71, 82]) = false := by rw [strB_list]; exact p2
        have hd := Aside0.mk (show refE xs = 90 from if_neg (fun k => by rw [k.2.2, beq_self_eq_true] at p2; exact Bool.noConfusion p2))
        have hL := rmload hr.out
        clear p1 p2
        go_enter Try.func85, Try.ntmps85
        go_wp2
        refine bodyPost_ret (v := .tuple #[.agg #[.int .i64 0, .int .i64 0, .int .i64 0, .int .i64 0, .int .i64 0, .int .i64 0, .int .i64 0, .slice none 0 0], .int .i64 90]) (by simp [results, Try.results85, asAddr, hL]) rfl ⟨HB.out, .inl ⟨by rw [hd.out]; decide, by rw [hd.out]⟩⟩
      | true =>
        have f2 : ((strB ((xs.take 252).drop 248)).toList == [85, 65, 71, 82]) = true := by rw [strB_list]; exact p2
        have hd0 := Aside0.mk (show xs.length = 256 ∧ xs.take 4 = magicL ∧ (xs.take 252).drop 248 = tailL from ⟨hln, beq_iff_eq.1 p1, beq_iff_eq.1 p2⟩)
        clear p1 p2
        go_enter Try.func85, Try.ntmps85
        go_upto_region 3 with fail
        obtain ⟨W0, hW0⟩ : ∃ W, w.alloc (.cells #[.int .i64 0, .int .i64 0, .int .i64 0, .int .i64 0, .int .i64 0, .int .i64 0, .int .i64 0, .slice none 0 0] 24) = W := ⟨_, rfl⟩
        rw [hW0] at hr HB ⊢
        clear cv1 cv2 hW0
        go_cut [30] (fun v30 wx => v30 = .bool (!(rsealB xs 252 == xs)) ∧ Aside0 (Below w.heap.size w wx ∧ wx.heap[w.heap.size]? = some (.cells #[.int .i64 0, .int .i64 0, .int .i64 0, .int .i64 0, .int .i64 0, .int .i64 0, .int .i64 0, .slice none 0 0] 24)))
        case first =>
          have cvb := conv8 (HX.out.below HB.out).drew
          have cvbn := fun m => conv8 ((HX.out.below HB.out).drewN m)
          go_region_with (go_at_call 81; refine (rseal_any A 256 c xs 252 _ ((HX.out.below HB.out).drewN 1) (by omega)).mono ?_; rintro e w1 ⟨A1, c1, rfl, hO1, hB1⟩; (have cv1 := conv8 hO1.bs); (have cv2 := conv8 (((HX.out.below HB.out).drewN 1).below hB1)); (have H1 := Aside0.mk hB1); clear hB1 hO1)
          all_goals (go_wp2_with fail)
          all_goals go_meet
          all_goals exact ⟨by rw [strEq], ⟨below_then (below_drew HB.out) HB.out.size H1.out, (H1.out.block _ (Array.getElem?_eq_some_iff.1 hr.out).1).trans hr.out⟩⟩
        case rest =>
          obtain ⟨rfl, H1⟩ := hcut
          clear hr HB f1 f2 s1 s2
          cases p3 : (!(rsealB xs 252 == xs)) with
          | true =>
            have hd := Aside0.mk (show refE xs = 91 from by unfold refE; rw [if_pos hd0.out, if_neg (fun k => by rw [k, beq_self_eq_true] at p3; exact absurd p3 (by decide))])
            clear p3
            obtain ⟨y0, y1, y2, y3, y4, y5, y6, y7⟩ := row8_cells H1.out.2
            have yf := fun j => Go.Joins.unfrozen_of_block H1.out.2 j
            have hL := rmload (row8_set (.int .i64 0) (.int .i64 0) (.int .i64 0) (.int .i64 0) (.int .i64 0) (.int .i64 0) (.int .i64 0) (.slice none 0 0) H1.out.2)
            go_wp2
            refine bodyPost_ret (v := .tuple #[.agg #[.int .i64 0, .int .i64 0, .int .i64 0, .int .i64 0, .int .i64 0, .int .i64 0, .int .i64 0, .slice none 0 0], .int .i64 91]) (by simp [results, Try.results85, asAddr, hL]) rfl ⟨below_set8 _ _ _ _ _ _ _ _ H1.out.1 (Nat.le_refl _), .inl ⟨by rw [hd.out]; decide, by rw [hd.out]⟩⟩
          | false =>
            have q3 := Aside0.mk (show rsealB xs 252 = xs by simpa using p3)
            clear p3
            have HX1 := Aside0.mk (HX.out.below H1.out.1)
            obtain ⟨ad, rfl, hx⟩ := HX1.out.cells (by omega)
            have hx4 : wc.cell? ⟨ad.block, ad.off + 4, none⟩ = some (.int .u8 (b8 xs 4)) := hx 4 (by omega)
            have hx5 : wc.cell? ⟨ad.block, ad.off + 5, none⟩ = some (.int .u8 (b8 xs 5)) := hx 5 (by omega)
            have hx6 : wc.cell? ⟨ad.block, ad.off + 6, none⟩ = some (.int .u8 (b8 xs 6)) := hx 6 (by omega)
            have hx7 : wc.cell? ⟨ad.block, ad.off + 7, none⟩ = some (.int .u8 (b8 xs 7)) := hx 7 (by omega)
            clear hx
            have k4 : wrap64 (b8 xs 4) = b8 xs 4 := by
              have := b8_lo xs 4
              have := b8_hi xs 4
              unfold wrap64
              omega
            have k5 : wrap64 (b8 xs 5) = b8 xs 5 := by
              have := b8_lo xs 5
              have := b8_hi xs 5
              unfold wrap64
              omega
            have k6 : wrap64 (b8 xs 6) = b8 xs 6 := by
              have := b8_lo xs 6
              have := b8_hi xs 6
              unfold wrap64
              omega
            have k7 : wrap64 (b8 xs 7) = b8 xs 7 := by
              have := b8_lo xs 7
              have := b8_hi xs 7
              unfold wrap64
              omega
            by_cases g1 : b8 xs 4 < 1
            · have d1 : decide (b8 xs 4 < 1) = true := decide_eq_true g1
              have hd := Aside0.mk (show refE xs = 93 from by unfold refE; rw [if_pos hd0.out, if_pos q3.out, if_neg (by omega)])
              obtain ⟨y0, y1, y2, y3, y4, y5, y6, y7⟩ := row8_cells H1.out.2
              have yf := fun j => Go.Joins.unfrozen_of_block H1.out.2 j
              have hL := rmload (row8_set (.int .i64 0) (.int .i64 0) (.int .i64 0) (.int .i64 0) (.int .i64 0) (.int .i64 0) (.int .i64 0) (.slice none 0 0) H1.out.2)
              go_wp2
              refine bodyPost_ret (v := .tuple #[.agg #[.int .i64 0, .int .i64 0, .int .i64 0, .int .i64 0, .int .i64 0, .int .i64 0, .int .i64 0, .slice none 0 0], .int .i64 93]) (by simp [results, Try.results85, asAddr, hL]) rfl ⟨below_set8 _ _ _ _ _ _ _ _ H1.out.1 (Nat.le_refl _), .inl ⟨by rw [hd.out]; decide, by rw [hd.out]⟩⟩
            · have d1 : decide (b8 xs 4 < 1) = false := decide_eq_false g1
              by_cases g2 : 3 < b8 xs 4
              · have d2 : decide (3 < b8 xs 4) = true := decide_eq_true g2
                have hd := Aside0.mk (show refE xs = 93 from by unfold refE; rw [if_pos hd0.out, if_pos q3.out, if_neg (by omega)])
                obtain ⟨y0, y1, y2, y3, y4, y5, y6, y7⟩ := row8_cells H1.out.2
                have yf := fun j => Go.Joins.unfrozen_of_block H1.out.2 j
                have hL := rmload (row8_set (.int .i64 0) (.int .i64 0) (.int .i64 0) (.int .i64 0) (.int .i64 0) (.int .i64 0) (.int .i64 0) (.slice none 0 0) H1.out.2)
                go_wp2
                refine bodyPost_ret (v := .tuple #[.agg #[.int .i64 0, .int .i64 0, .int .i64 0, .int .i64 0, .int .i64 0, .int .i64 0, .int .i64 0, .slice none 0 0], .int .i64 93]) (by simp [results, Try.results85, asAddr, hL]) rfl ⟨below_set8 _ _ _ _ _ _ _ _ H1.out.1 (Nat.le_refl _), .inl ⟨by rw [hd.out]; decide, by rw [hd.out]⟩⟩
              · have d2 : decide (3 < b8 xs 4) = false := decide_eq_false g2
                by_cases g3 : 3 < b8 xs 6
                · have d3 : decide (3 < b8 xs 6) = true := decide_eq_true g3
                  have hd := Aside0.mk (show refE xs = 93 from by unfold refE; rw [if_pos hd0.out, if_pos q3.out, if_neg (by omega)])
                  obtain ⟨y0, y1, y2, y3, y4, y5, y6, y7⟩ := row8_cells H1.out.2
                  have yf := fun j => Go.Joins.unfrozen_of_block H1.out.2 j
                  have hL := rmload (row8_set (.int .i64 0) (.int .i64 0) (.int .i64 0) (.int .i64 0) (.int .i64 0) (.int .i64 0) (.int .i64 0) (.slice none 0 0) H1.out.2)
                  go_wp2
                  refine bodyPost_ret (v := .tuple #[.agg #[.int .i64 0, .int .i64 0, .int .i64 0, .int .i64 0, .int .i64 0, .int .i64 0, .int .i64 0, .slice none 0 0], .int .i64 93]) (by simp [results, Try.results85, asAddr, hL]) rfl ⟨below_set8 _ _ _ _ _ _ _ _ H1.out.1 (Nat.le_refl _), .inl ⟨by rw [hd.out]; decide, by rw [hd.out]⟩⟩
                · have d3 : decide (3 < b8 xs 6) = false := decide_eq_false g3
                  have g123 := Aside0.mk (show 1 ≤ b8 xs 4 ∧ b8 xs 4 ≤ 3 ∧ b8 xs 6 ≤ 3 by omega)
                  clear g1 g2 g3
                  go_wp2_with (go_at_call 79; (with_reducible refine (rIdWidth_any (b8 xs 4) wc).mono ?_); rintro e w2 ⟨rfl, rfl⟩)
                  have ha := (HX1.out.alloc (.cells #[.int .i64 0, .int .i64 0, .int .i64 0, .int .i64 0, .int .i64 0, .int .i64 0, .int .i64 0, .slice none 0 0] 24)).cells (by omega)
                  obtain ⟨ad', e, ha⟩ := ha
                  obtain rfl := Option.some.inj e
                  clear e
                  have ha5 : (wc.alloc (.cells #[.int .i64 0, .int .i64 0, .int .i64 0, .int .i64 0, .int .i64 0, .int .i64 0, .int .i64 0, .slice none 0 0] 24)).drew.cell? ⟨ad.block, ad.off + 5, none⟩ = some (.int .u8 (b8 xs 5)) := ha 5 (by omega)
                  have ha6 : (wc.alloc (.cells #[.int .i64 0, .int .i64 0, .int .i64 0, .int .i64 0, .int .i64 0, .int .i64 0, .int .i64 0, .slice none 0 0] 24)).drew.cell? ⟨ad.block, ad.off + 6, none⟩ = some (.int .u8 (b8 xs 6)) := ha 6 (by omega)
                  clear ha
                  go_region
                  have HN : Aside0 (NB w wc.heap.size #[.int .i64 (b8 xs 4), .int .i64 (b8 xs 5), .int .i64 (b8 xs 6), .int .i64 0, .int .i64 0, .int .i64 0, .int .i64 0, .slice none 0 0] (wc.alloc (.cells #[.int .i64 (b8 xs 4), .int .i64 (b8 xs 5), .int .i64 (b8 xs 6), .int .i64 0, .int .i64 0, .int .i64 0, .int .i64 0, .slice none 0 0] 24)).drew) := ⟨⟨below_drew (H1.out.1.alloc H1.out.1.size _), (Below.heap_alloc _ _ _ (Array.getElem?_eq_some_iff.1 H1.out.2).1).trans H1.out.2, heap_alloc_new _ _, (Array.getElem?_eq_some_iff.1 H1.out.2).1⟩⟩
                  obtain ⟨W, hW⟩ : ∃ W, (wc.alloc (.cells #[.int .i64 (b8 xs 4), .int .i64 (b8 xs 5), .int .i64 (b8 xs 6), .int .i64 0, .int .i64 0, .int .i64 0, .int .i64 0, .slice none 0 0] 24)).drew = W := ⟨_, rfl⟩
                  obtain ⟨g, hg⟩ : ∃ g, wc.heap.size = g := ⟨_, rfl⟩
                  rw [hW, hg] at HN ⊢
                  clear hW hg ha5 ha6 hx4 hx5 hx6 hx7 HX1 H1 k4 k5 k6
                  obtain ⟨qn, hqn⟩ : ∃ q : Nat, b8 xs 7 = (q : Int) := ⟨(b8 xs 7).toNat, by have := b8_lo xs 7; omega⟩
                  have hq5 : qn ≤ 255 := by have := b8_hi xs 7; omega
                  have hw : iwI (b8 xs 4) = 4 ∨ iwI (b8 xs 4) = 8 := by
                    have := g123.out
                    rcases (show b8 xs 4 = 1 ∨ b8 xs 4 = 2 ∨ b8 xs 4 = 3 by omega) with h | h | h <;> rw [h] <;> decide
                  rcases hw with hw | hw
                  · rw [hw]
                    have r0 : numR ((xs.drop 8).take 4) = rfN xs 0 := by unfold rfN rfW; rw [hw]; simp only [show ((4 : Int).toNat) = 4 from rfl]
                    have t0 : ∀ W : World, (Instr.slice 22 (.slice (some ad) 256 c) (some (.int .i64 8)) (some (.int .i64 12)) none).run Try.prog W = .ok (.slice (cutA (some ad) c 8) 4 (c - 8)) W := fun W => by
                      rw [sl8_lh W (some ad) 256 c .i64 .i64 8 12 (by omega) (by omega) (by omega)]
                      rfl
                    have r1 : numR ((xs.drop 12).take 4) = rfN xs 1 := by unfold rfN rfW; rw [hw]; simp only [show ((4 : Int).toNat) = 4 from rfl]
                    have t1 : ∀ W : World, (Instr.slice 22 (.slice (some ad) 256 c) (some (.int .i64 12)) (some (.int .i64 16)) none).run Try.prog W = .ok (.slice (cutA (some ad) c 12) 4 (c - 12)) W := fun W => by
                      rw [sl8_lh W (some ad) 256 c .i64 .i64 12 16 (by omega) (by omega) (by omega)]
                      rfl
                    have r2 : numR ((xs.drop 16).take 4) = rfN xs 2 := by unfold rfN rfW; rw [hw]; simp only [show ((4 : Int).toNat) = 4 from rfl]
                    have t2 : ∀ W : World, (Instr.slice 22 (.slice (some ad) 256 c) (some (.int .i64 16)) (some (.int .i64 20)) none).run Try.prog W = .ok (.slice (cutA (some ad) c 16) 4 (c - 16)) W := fun W => by
                      rw [sl8_lh W (some ad) 256 c .i64 .i64 16 20 (by omega) (by omega) (by omega)]
                      rfl
                    have r3 : numR ((xs.drop 20).take 4) = rfN xs 3 := by unfold rfN rfW; rw [hw]; simp only [show ((4 : Int).toNat) = 4 from rfl]
                    have t3 : ∀ W : World, (Instr.slice 22 (.slice (some ad) 256 c) (some (.int .i64 20)) (some (.int .i64 24)) none).run Try.prog W = .ok (.slice (cutA (some ad) c 20) 4 (c - 20)) W := fun W => by
                      rw [sl8_lh W (some ad) 256 c .i64 .i64 20 24 (by omega) (by omega) (by omega)]
                      rfl
                    have N0 := HN
                    have N1 : Aside0 (NB w g #[.int .i64 (b8 xs 4), .int .i64 (b8 xs 5), .int .i64 (b8 xs 6), .int .i64 (rfN xs 0), .int .i64 (0), .int .i64 (0), .int .i64 (0), .slice none 0 0] (W.setCell ⟨g, 3, none⟩ (.int .i64 (rfN xs 0)))) := ⟨N0.out.set 3 (.int .i64 (rfN xs 0))⟩
                    have N2 : Aside0 (NB w g #[.int .i64 (b8 xs 4), .int .i64 (b8 xs 5), .int .i64 (b8 xs 6), .int .i64 (rfN xs 0), .int .i64 (rfN xs 1), .int .i64 (0), .int .i64 (0), .slice none 0 0] ((W.setCell ⟨g, 3, none⟩ (.int .i64 (rfN xs 0))).setCell ⟨g, 4, none⟩ (.int .i64 (rfN xs 1)))) := ⟨N1.out.set 4 (.int .i64 (rfN xs 1))⟩
                    have N3 : Aside0 (NB w g #[.int .i64 (b8 xs 4), .int .i64 (b8 xs 5), .int .i64 (b8 xs 6), .int .i64 (rfN xs 0), .int .i64 (rfN xs 1), .int .i64 (rfN xs 2), .int .i64 (0), .slice none 0 0] (((W.setCell ⟨g, 3, none⟩ (.int .i64 (rfN xs 0))).setCell ⟨g, 4, none⟩ (.int .i64 (rfN xs 1))).setCell ⟨g, 5, none⟩ (.int .i64 (rfN xs 2)))) := ⟨N2.out.set 5 (.int .i64 (rfN xs 2))⟩
                    have N4 : Aside0 (NB w g #[.int .i64 (b8 xs 4), .int .i64 (b8 xs 5), .int .i64 (b8 xs 6), .int .i64 (rfN xs 0), .int .i64 (rfN xs 1), .int .i64 (rfN xs 2), .int .i64 (rfN xs 3), .slice none 0 0] ((((W.setCell ⟨g, 3, none⟩ (.int .i64 (rfN xs 0))).setCell ⟨g, 4, none⟩ (.int .i64 (rfN xs 1))).setCell ⟨g, 5, none⟩ (.int .i64 (rfN xs 2))).setCell ⟨g, 6, none⟩ (.int .i64 (rfN xs 3)))) := ⟨N3.out.set 6 (.int .i64 (rfN xs 3))⟩
                    obtain ⟨y0, y1, y2, y3, y4, y5, y6, y7⟩ := row8_cells N0.out.row
                    have yf := fun j => Go.Joins.unfrozen_of_block N0.out.row j
                    have k7 : wrap64 (qn : Int) = (qn : Int) := by rw [← hqn]; exact k7
                    go_upto_region 14 with (go_at_call 102; first | ((with_reducible refine (number_any (cutA (some ad) c 8) 4 (c - 8) ((xs.drop 8).take 4) W (((HX.out.below N0.out.bel).drop 8 (by omega)).take 4 (by omega)) (by omega)).mono ?_); rintro e w2 ⟨rfl, rfl⟩; rw [r0]) | ((with_reducible refine (number_any (cutA (some ad) c 12) 4 (c - 12) ((xs.drop 12).take 4) (W.setCell ⟨g, 3, none⟩ (.int .i64 (rfN xs 0))) (((HX.out.below N1.out.bel).drop 12 (by omega)).take 4 (by omega)) (by omega)).mono ?_); rintro e w2 ⟨rfl, rfl⟩; rw [r1]) | ((with_reducible refine (number_any (cutA (some ad) c 16) 4 (c - 16) ((xs.drop 16).take 4) ((W.setCell ⟨g, 3, none⟩ (.int .i64 (rfN xs 0))).setCell ⟨g, 4, none⟩ (.int .i64 (rfN xs 1))) (((HX.out.below N2.out.bel).drop 16 (by omega)).take 4 (by omega)) (by omega)).mono ?_); rintro e w2 ⟨rfl, rfl⟩; rw [r2]) | ((with_reducible refine (number_any (cutA (some ad) c 20) 4 (c - 20) ((xs.drop 20).take 4) (((W.setCell ⟨g, 3, none⟩ (.int .i64 (rfN xs 0))).setCell ⟨g, 4, none⟩ (.int .i64 (rfN xs 1))).setCell ⟨g, 5, none⟩ (.int .i64 (rfN xs 2))) (((HX.out.below N3.out.bel).drop 20 (by omega)).take 4 (by omega)) (by omega)).mono ?_); rintro e w2 ⟨rfl, rfl⟩; rw [r3]))
                    clear y0 y1 y2 y3 y4 y5 y6 y7 yf N3 N2 N1 N0 HN r0 r1 r2 r3 t0 t1 t2 t3
                    obtain ⟨W4, hW4⟩ : ∃ X, ((((W.setCell ⟨g, 3, none⟩ (.int .i64 (rfN xs 0))).setCell ⟨g, 4, none⟩ (.int .i64 (rfN xs 1))).setCell ⟨g, 5, none⟩ (.int .i64 (rfN xs 2))).setCell ⟨g, 6, none⟩ (.int .i64 (rfN xs 3))) = X := ⟨_, rfl⟩
                    rw [hW4] at N4 ⊢
                    clear hW4
                    have h7 : W4.cell? ⟨ad.block, ad.off + 7, none⟩ = some (.int .u8 (qn : Int)) := by
                      obtain ⟨ad', e, hx⟩ := (HX.out.below N4.out.bel).cells (by omega)
                      obtain rfl := Option.some.inj e
                      rw [← hqn]
                      exact hx 7 (by omega)
                    have hE : rfEnd xs = 24 + qn := by unfold rfEnd rfW; rw [hw, hqn]; rfl
                    have hC : rfCu xs = (xs.drop 24).take qn := by unfold rfCu rfW; rw [hw, hqn]; rfl
                    have ke : wrap64 ((24 : Int) + (qn : Int)) = (24 : Int) + (qn : Int) := by unfold wrap64; omega
                    obtain ⟨z0, z1, z2, z3, z4, z5, z6, z7⟩ := row8_cells N4.out.res
                    have zf := fun j => Go.Joins.unfrozen_of_block N4.out.res j
                    obtain ⟨y0, y1, y2, y3, y4, y5, y6, y7⟩ := row8_cells N4.out.row
                    have yf := fun j => Go.Joins.unfrozen_of_block N4.out.row j
                    by_cases he : 248 < 24 + qn
                    · have de : decide (248 < ((24 : Int) + (qn : Int))) = true := decide_eq_true (by omega)
                      have hd := Aside0.mk (show refE xs = 92 from by unfold refE; rw [if_pos hd0.out, if_pos q3.out, if_pos g123.out, if_neg (fun k => by omega)])
                      clear he hE hC
                      go_wp2_with fail
                      have hL := rmload (row8_set (.int .i64 0) (.int .i64 0) (.int .i64 0) (.int .i64 0) (.int .i64 0) (.int .i64 0) (.int .i64 0) (.slice none 0 0) N4.out.res)
                      refine bodyPost_ret (v := .tuple #[.agg #[.int .i64 0, .int .i64 0, .int .i64 0, .int .i64 0, .int .i64 0, .int .i64 0, .int .i64 0, .slice none 0 0], .int .i64 92]) (by simp [results, Try.results85, asAddr, hL]) rfl ⟨below_set8 _ _ _ _ _ _ _ _ N4.out.bel (Nat.le_refl _), .inl ⟨by rw [hd.out]; decide, by rw [hd.out]⟩⟩
                    · have de : decide (248 < ((24 : Int) + (qn : Int))) = false := decide_eq_false (by omega)
                      have ts : ∀ W : World, (Instr.slice 22 (.slice (some ad) 256 c) (some (.int .i64 24)) (some (.int .i64 ((24 : Int) + (qn : Int)))) none).run Try.prog W = .ok (.slice (cutA (some ad) c 24) qn (c - 24)) W := fun W => by
                        rw [sl8_lh W (some ad) 256 c .i64 .i64 24 ((24 : Int) + (qn : Int)) (by omega) (by omega) (by omega), show ((24 : Int) + (qn : Int)).toNat = 24 + qn by omega, show (24 : Int).toNat = 24 from rfl, Nat.add_sub_cancel_left]
                      have N5 : Aside0 (NB w g #[.int .i64 (b8 xs 4), .int .i64 (b8 xs 5), .int .i64 (b8 xs 6), .int .i64 (rfN xs 0), .int .i64 (rfN xs 1), .int .i64 (rfN xs 2), .int .i64 (rfN xs 3), .slice (cutA (some ad) c 24) qn (c - 24)] (W4.setCell ⟨g, 7, none⟩ (.slice (cutA (some ad) c 24) qn (c - 24)))) := ⟨N4.out.set 7 (.slice (cutA (some ad) c 24) qn (c - 24))⟩
                      go_wp2_with fail
                      clear z0 z1 z2 z3 z4 z5 z6 z7 zf y0 y1 y2 y3 y4 y5 y6 y7 yf h7 N4 ts
                      obtain ⟨W5, hW5⟩ : ∃ X, (W4.setCell ⟨g, 7, none⟩ (.slice (cutA (some ad) c 24) qn (c - 24))) = X := ⟨_, rfl⟩
                      rw [hW5] at N5 ⊢
                      clear hW5
                      obtain ⟨z0, z1, z2, z3, z4, z5, z6, z7⟩ := row8_cells N5.out.res
                      have zf := fun j => Go.Joins.unfrozen_of_block N5.out.res j
                      go_loopg [8] (248 - (24 + qn)) (fun m v wr => ∃ k : Nat, Aside0 (m + k = 248) ∧ wr = W5 ∧ v = .int .i64 (k : Int) ∧ Aside (24 + qn ≤ k ∧ k ≤ 248) ∧ Aside0 (∀ i, 24 + qn ≤ i → i < k → b8 xs i = 0))
                      case atStart => exact ⟨24 + qn, ⟨by omega⟩, rfl, by rw [Int.natCast_add]; rfl, ⟨Nat.le_refl _, by omega⟩, ⟨fun i h1 h2 => by omega⟩⟩
                      case round =>
                        obtain ⟨k, hm, rfl, rfl, hk, hI⟩ := hrel
                        obtain ⟨hk1, hk2⟩ := hk.out
                        rcases Nat.lt_or_ge k 248 with hlt | hge
                        · have dk : decide ((k : Int) < 248) = true := decide_eq_true (by omega)
                          have hx : wr.cell? (ad.add k) = some (.int .u8 (b8 xs k)) := by
                            obtain ⟨ad', e, hx⟩ := (HX.out.below N5.out.bel).cells (by omega)
                            obtain rfl := Option.some.inj e
                            exact hx k (by omega)
                          cases hz : (b8 xs k == 0) with
                          | false =>
                            have hd := Aside0.mk (show refE xs = 92 from by unfold refE; rw [if_pos hd0.out, if_pos q3.out, if_pos g123.out, if_neg (fun j => by have := (rfZ_iff xs hln).1 j.2.1 k (by omega) hlt; rw [this] at hz; exact absurd hz (by decide))])
                            clear hI hm hE hC
                            go_wp2_with fail
                            have hL := rmload (row8_set (.int .i64 0) (.int .i64 0) (.int .i64 0) (.int .i64 0) (.int .i64 0) (.int .i64 0) (.int .i64 0) (.slice none 0 0) N5.out.res)
                            refine bodyPost_ret (v := .tuple #[.agg #[.int .i64 0, .int .i64 0, .int .i64 0, .int .i64 0, .int .i64 0, .int .i64 0, .int .i64 0, .slice none 0 0], .int .i64 92]) (by simp [results, Try.results85, asAddr, hL]) rfl ⟨below_set8 _ _ _ _ _ _ _ _ N5.out.bel (Nat.le_refl _), .inl ⟨by rw [hd.out]; decide, by rw [hd.out]⟩⟩
                          | true =>
                            have hz0 := Aside0.mk (beq_iff_eq.1 hz)
                            go_wp2_with fail
                            go_roundg (248 - (k + 1))
                            case measure => have := hm.out; omega
                            case rel => exact ⟨k + 1, ⟨by have := hm.out; omega⟩, rfl, by go_num, ⟨by omega, by omega⟩, ⟨fun i h1 h2 => by rcases Nat.lt_or_ge i k with h | h; exact hI.out i h1 h; rw [show i = k by omega]; exact hz0.out⟩⟩
                        · obtain rfl : k = 248 := by omega
                          have hZ := Aside0.mk ((rfZ_iff xs hln).2 (fun i h1 h2 => hI.out i (by omega) h2))
                          have hcl : (rfCu xs).length = qn := by rw [hC, List.length_take, List.length_drop]; omega
                          have hrw : 8 + 4 * rfW xs = 24 := by unfold rfW; rw [hw]; rfl
                          obtain ⟨y0, y1, y2, y3, y4, y5, y6, y7⟩ := row8_cells N5.out.row
                          have hLm := rmload N5.out.row
                          have hE8 : rfEnd xs ≤ 248 := by omega
                          have hE9 := Aside0.mk hE8
                          clear hI hm hE hC hE8
                          cases hR : mrightB (b8 xs 4) (b8 xs 5) (b8 xs 6) (rfN xs 0) (rfN xs 1) (rfN xs 2) (rfN xs 3) qn with
                          | false =>
                            have hd := Aside0.mk (show refE xs = 92 from by unfold refE; rw [if_pos hd0.out, if_pos q3.out, if_pos g123.out, if_neg (fun j => by rw [hcl, hR] at j; exact Bool.noConfusion j.2.2)])
                            go_wp2_with (go_at_call 39; (with_reducible refine (rmright_any (b8 xs 4) (b8 xs 5) (b8 xs 6) (rfN xs 0) (rfN xs 1) (rfN xs 2) (rfN xs 3) (cutA (some ad) c 24) qn (c - 24) wr (by omega)).mono ?_); rintro e w6 ⟨rfl, hB6⟩; rw [hR]; (have N6 := Aside0.mk (N5.out.step hB6)); clear hB6; (obtain ⟨x0, x1, x2, x3, x4, x5, x6, x7⟩ := row8_cells N6.out.res); (have xf := fun j => Go.Joins.unfrozen_of_block N6.out.res j); (have hLm6 := rmload N6.out.row); (obtain ⟨v0, v1, v2, v3, v4, v5, v6, v7⟩ := row8_cells N6.out.row))
                            have hL := rmload (row8_set (.int .i64 0) (.int .i64 0) (.int .i64 0) (.int .i64 0) (.int .i64 0) (.int .i64 0) (.int .i64 0) (.slice none 0 0) N6.out.res)
                            refine bodyPost_ret (v := .tuple #[.agg #[.int .i64 0, .int .i64 0, .int .i64 0, .int .i64 0, .int .i64 0, .int .i64 0, .int .i64 0, .slice none 0 0], .int .i64 92]) (by simp [results, Try.results85, asAddr, hL]) rfl ⟨below_set8 _ _ _ _ _ _ _ _ N6.out.bel (Nat.le_refl _), .inl ⟨by rw [hd.out]; decide, by rw [hd.out]⟩⟩
                          | true =>
                            have hd := Aside0.mk (show refE xs = 0 from by unfold refE; rw [if_pos hd0.out, if_pos q3.out, if_pos g123.out, if_pos ⟨hE9.out, hZ.out, by rw [hcl]; exact hR⟩])
                            go_wp2_with (go_at_call 39; (with_reducible refine (rmright_any (b8 xs 4) (b8 xs 5) (b8 xs 6) (rfN xs 0) (rfN xs 1) (rfN xs 2) (rfN xs 3) (cutA (some ad) c 24) qn (c - 24) wr (by omega)).mono ?_); rintro e w6 ⟨rfl, hB6⟩; rw [hR]; (have N6 := Aside0.mk (N5.out.step hB6)); clear hB6; (obtain ⟨x0, x1, x2, x3, x4, x5, x6, x7⟩ := row8_cells N6.out.res); (have xf := fun j => Go.Joins.unfrozen_of_block N6.out.res j); (have hLm6 := rmload N6.out.row); (obtain ⟨v0, v1, v2, v3, v4, v5, v6, v7⟩ := row8_cells N6.out.row))
                            have hL := rmload (row8_set (.int .i64 (b8 xs 4)) (.int .i64 (b8 xs 5)) (.int .i64 (b8 xs 6)) (.int .i64 (rfN xs 0)) (.int .i64 (rfN xs 1)) (.int .i64 (rfN xs 2)) (.int .i64 (rfN xs 3)) (.slice (cutA (some ad) c 24) qn (c - 24)) N6.out.res)
                            refine bodyPost_ret (v := .tuple #[.agg #[.int .i64 (b8 xs 4), .int .i64 (b8 xs 5), .int .i64 (b8 xs 6), .int .i64 (rfN xs 0), .int .i64 (rfN xs 1), .int .i64 (rfN xs 2), .int .i64 (rfN xs 3), .slice (cutA (some ad) c 24) qn (c - 24)], .int .i64 0]) (by simp [results, Try.results85, asAddr, hL]) rfl ⟨below_set8 _ _ _ _ _ _ _ _ N6.out.bel (Nat.le_refl _), .inr ⟨hd.out, ?_⟩⟩
                            unfold rfA rfC
                            rw [hcl, hrw]
                  · rw [hw]
                    have r0 : numR ((xs.drop 8).take 8) = rfN xs 0 := by unfold rfN rfW; rw [hw]; simp only [show ((8 : Int).toNat) = 8 from rfl]
                    have t0 : ∀ W : World, (Instr.slice 22 (.slice (some ad) 256 c) (some (.int .i64 8)) (some (.int .i64 16)) none).run Try.prog W = .ok (.slice (cutA (some ad) c 8) 8 (c - 8)) W := fun W => by
                      rw [sl8_lh W (some ad) 256 c .i64 .i64 8 16 (by omega) (by omega) (by omega)]
                      rfl
                    have r1 : numR ((xs.drop 16).take 8) = rfN xs 1 := by unfold rfN rfW; rw [hw]; simp only [show ((8 : Int).toNat) = 8 from rfl]
                    have t1 : ∀ W : World, (Instr.slice 22 (.slice (some ad) 256 c) (some (.int .i64 16)) (some (.int .i64 24)) none).run Try.prog W = .ok (.slice (cutA (some ad) c 16) 8 (c - 16)) W := fun W => by
                      rw [sl8_lh W (some ad) 256 c .i64 .i64 16 24 (by omega) (by omega) (by omega)]
                      rfl
                    have r2 : numR ((xs.drop 24).take 8) = rfN xs 2 := by unfold rfN rfW; rw [hw]; simp only [show ((8 : Int).toNat) = 8 from rfl]
                    have t2 : ∀ W : World, (Instr.slice 22 (.slice (some ad) 256 c) (some (.int .i64 24)) (some (.int .i64 32)) none).run Try.prog W = .ok (.slice (cutA (some ad) c 24) 8 (c - 24)) W := fun W => by
                      rw [sl8_lh W (some ad) 256 c .i64 .i64 24 32 (by omega) (by omega) (by omega)]
                      rfl
                    have r3 : numR ((xs.drop 32).take 8) = rfN xs 3 := by unfold rfN rfW; rw [hw]; simp only [show ((8 : Int).toNat) = 8 from rfl]
                    have t3 : ∀ W : World, (Instr.slice 22 (.slice (some ad) 256 c) (some (.int .i64 32)) (some (.int .i64 40)) none).run Try.prog W = .ok (.slice (cutA (some ad) c 32) 8 (c - 32)) W := fun W => by
                      rw [sl8_lh W (some ad) 256 c .i64 .i64 32 40 (by omega) (by omega) (by omega)]
                      rfl
                    have N0 := HN
                    have N1 : Aside0 (NB w g #[.int .i64 (b8 xs 4), .int .i64 (b8 xs 5), .int .i64 (b8 xs 6), .int .i64 (rfN xs 0), .int .i64 (0), .int .i64 (0), .int .i64 (0), .slice none 0 0] (W.setCell ⟨g, 3, none⟩ (.int .i64 (rfN xs 0)))) := ⟨N0.out.set 3 (.int .i64 (rfN xs 0))⟩
                    have N2 : Aside0 (NB w g #[.int .i64 (b8 xs 4), .int .i64 (b8 xs 5), .int .i64 (b8 xs 6), .int .i64 (rfN xs 0), .int .i64 (rfN xs 1), .int .i64 (0), .int .i64 (0), .slice none 0 0] ((W.setCell ⟨g, 3, none⟩ (.int .i64 (rfN xs 0))).setCell ⟨g, 4, none⟩ (.int .i64 (rfN xs 1)))) := ⟨N1.out.set 4 (.int .i64 (rfN xs 1))⟩
                    have N3 : Aside0 (NB w g #[.int .i64 (b8 xs 4), .int .i64 (b8 xs 5), .int .i64 (b8 xs 6), .int .i64 (rfN xs 0), .int .i64 (rfN xs 1), .int .i64 (rfN xs 2), .int .i64 (0), .slice none 0 0] (((W.setCell ⟨g, 3, none⟩ (.int .i64 (rfN xs 0))).setCell ⟨g, 4, none⟩ (.int .i64 (rfN xs 1))).setCell ⟨g, 5, none⟩ (.int .i64 (rfN xs 2)))) := ⟨N2.out.set 5 (.int .i64 (rfN xs 2))⟩
                    have N4 : Aside0 (NB w g #[.int .i64 (b8 xs 4), .int .i64 (b8 xs 5), .int .i64 (b8 xs 6), .int .i64 (rfN xs 0), .int .i64 (rfN xs 1), .int .i64 (rfN xs 2), .int .i64 (rfN xs 3), .slice none 0 0] ((((W.setCell ⟨g, 3, none⟩ (.int .i64 (rfN xs 0))).setCell ⟨g, 4, none⟩ (.int .i64 (rfN xs 1))).setCell ⟨g, 5, none⟩ (.int .i64 (rfN xs 2))).setCell ⟨g, 6, none⟩ (.int .i64 (rfN xs 3)))) := ⟨N3.out.set 6 (.int .i64 (rfN xs 3))⟩
                    obtain ⟨y0, y1, y2, y3, y4, y5, y6, y7⟩ := row8_cells N0.out.row
                    have yf := fun j => Go.Joins.unfrozen_of_block N0.out.row j
                    have k7 : wrap64 (qn : Int) = (qn : Int) := by rw [← hqn]; exact k7
                    go_upto_region 14 with (go_at_call 102; first | ((with_reducible refine (number_any (cutA (some ad) c 8) 8 (c - 8) ((xs.drop 8).take 8) W (((HX.out.below N0.out.bel).drop 8 (by omega)).take 8 (by omega)) (by omega)).mono ?_); rintro e w2 ⟨rfl, rfl⟩; rw [r0]) | ((with_reducible refine (number_any (cutA (some ad) c 16) 8 (c - 16) ((xs.drop 16).take 8) (W.setCell ⟨g, 3, none⟩ (.int .i64 (rfN xs 0))) (((HX.out.below N1.out.bel).drop 16 (by omega)).take 8 (by omega)) (by omega)).mono ?_); rintro e w2 ⟨rfl, rfl⟩; rw [r1]) | ((with_reducible refine (number_any (cutA (some ad) c 24) 8 (c - 24) ((xs.drop 24).take 8) ((W.setCell ⟨g, 3, none⟩ (.int .i64 (rfN xs 0))).setCell ⟨g, 4, none⟩ (.int .i64 (rfN xs 1))) (((HX.out.below N2.out.bel).drop 24 (by omega)).take 8 (by omega)) (by omega)).mono ?_); rintro e w2 ⟨rfl, rfl⟩; rw [r2]) | ((with_reducible refine (number_any (cutA (some ad) c 32) 8 (c - 32) ((xs.drop 32).take 8) (((W.setCell ⟨g, 3, none⟩ (.int .i64 (rfN xs 0))).setCell ⟨g, 4, none⟩ (.int .i64 (rfN xs 1))).setCell ⟨g, 5, none⟩ (.int .i64 (rfN xs 2))) (((HX.out.below N3.out.bel).drop 32 (by omega)).take 8 (by omega)) (by omega)).mono ?_); rintro e w2 ⟨rfl, rfl⟩; rw [r3]))
                    clear y0 y1 y2 y3 y4 y5 y6 y7 yf N3 N2 N1 N0 HN r0 r1 r2 r3 t0 t1 t2 t3
                    obtain ⟨W4, hW4⟩ : ∃ X, ((((W.setCell ⟨g, 3, none⟩ (.int .i64 (rfN xs 0))).setCell ⟨g, 4, none⟩ (.int .i64 (rfN xs 1))).setCell ⟨g, 5, none⟩ (.int .i64 (rfN xs 2))).setCell ⟨g, 6, none⟩ (.int .i64 (rfN xs 3))) = X := ⟨_, rfl⟩
                    rw [hW4] at N4 ⊢
                    clear hW4
                    have h7 : W4.cell? ⟨ad.block, ad.off + 7, none⟩ = some (.int .u8 (qn : Int)) := by
                      obtain ⟨ad', e, hx⟩ := (HX.out.below N4.out.bel).cells (by omega)
                      obtain rfl := Option.some.inj e
                      rw [← hqn]
                      exact hx 7 (by omega)
                    have hE : rfEnd xs = 40 + qn := by unfold rfEnd rfW; rw [hw, hqn]; rfl
                    have hC : rfCu xs = (xs.drop 40).take qn := by unfold rfCu rfW; rw [hw, hqn]; rfl
                    have ke : wrap64 ((40 : Int) + (qn : Int)) = (40 : Int) + (qn : Int) := by unfold wrap64; omega
                    obtain ⟨z0, z1, z2, z3, z4, z5, z6, z7⟩ := row8_cells N4.out.res
                    have zf := fun j => Go.Joins.unfrozen_of_block N4.out.res j
                    obtain ⟨y0, y1, y2, y3, y4, y5, y6, y7⟩ := row8_cells N4.out.row
                    have yf := fun j => Go.Joins.unfrozen_of_block N4.out.row j
                    by_cases he : 248 < 40 + qn
                    · have de : decide (248 < ((40 : Int) + (qn : Int))) = true := decide_eq_true (by omega)
                      have hd := Aside0.mk (show refE xs = 92 from by unfold refE; rw [if_pos hd0.out, if_pos q3.out, if_pos g123.out, if_neg (fun k => by omega)])
                      clear he hE hC
                      go_wp2_with fail
                      have hL := rmload (row8_set (.int .i64 0) (.int .i64 0) (.int .i64 0) (.int .i64 0) (.int .i64 0) (.int .i64 0) (.int .i64 0) (.slice none 0 0) N4.out.res)
                      refine bodyPost_ret (v := .tuple #[.agg #[.int .i64 0, .int .i64 0, .int .i64 0, .int .i64 0, .int .i64 0, .int .i64 0, .int .i64 0, .slice none 0 0], .int .i64 92]) (by simp [results, Try.results85, asAddr, hL]) rfl ⟨below_set8 _ _ _ _ _ _ _ _ N4.out.bel (Nat.le_refl _), .inl ⟨by rw [hd.out]; decide, by rw [hd.out]⟩⟩
                    · have de : decide (248 < ((40 : Int) + (qn : Int))) = false := decide_eq_false (by omega)
                      have ts : ∀ W : World, (Instr.slice 22 (.slice (some ad) 256 c) (some (.int .i64 40)) (some (.int .i64 ((40 : Int) + (qn : Int)))) none).run Try.prog W = .ok (.slice (cutA (some ad) c 40) qn (c - 40)) W := fun W => by
                        rw [sl8_lh W (some ad) 256 c .i64 .i64 40 ((40 : Int) + (qn : Int)) (by omega) (by omega) (by omega), show ((40 : Int) + (qn : Int)).toNat = 40 + qn by omega, show (40 : Int).toNat = 40 from rfl, Nat.add_sub_cancel_left]
                      have N5 : Aside0 (NB w g #[.int .i64 (b8 xs 4), .int .i64 (b8 xs 5), .int .i64 (b8 xs 6), .int .i64 (rfN xs 0), .int .i64 (rfN xs 1), .int .i64 (rfN xs 2), .int .i64 (rfN xs 3), .slice (cutA (some ad) c 40) qn (c - 40)] (W4.setCell ⟨g, 7, none⟩ (.slice (cutA (some ad) c 40) qn (c - 40)))) := ⟨N4.out.set 7 (.slice (cutA (some ad) c 40) qn (c - 40))⟩
                      go_wp2_with fail
                      clear z0 z1 z2 z3 z4 z5 z6 z7 zf y0 y1 y2 y3 y4 y5 y6 y7 yf h7 N4 ts
                      obtain ⟨W5, hW5⟩ : ∃ X, (W4.setCell ⟨g, 7, none⟩ (.slice (cutA (some ad) c 40) qn (c - 40))) = X := ⟨_, rfl⟩
                      rw [hW5] at N5 ⊢
                      clear hW5
                      obtain ⟨z0, z1, z2, z3, z4, z5, z6, z7⟩ := row8_cells N5.out.res
                      have zf := fun j => Go.Joins.unfrozen_of_block N5.out.res j
                      go_loopg [8] (248 - (40 + qn)) (fun m v wr => ∃ k : Nat, Aside0 (m + k = 248) ∧ wr = W5 ∧ v = .int .i64 (k : Int) ∧ Aside (40 + qn ≤ k ∧ k ≤ 248) ∧ Aside0 (∀ i, 40 + qn ≤ i → i < k → b8 xs i = 0))
                      case atStart => exact ⟨40 + qn, ⟨by omega⟩, rfl, by rw [Int.natCast_add]; rfl, ⟨Nat.le_refl _, by omega⟩, ⟨fun i h1 h2 => by omega⟩⟩
                      case round =>
                        obtain ⟨k, hm, rfl, rfl, hk, hI⟩ := hrel
                        obtain ⟨hk1, hk2⟩ := hk.out
                        rcases Nat.lt_or_ge k 248 with hlt | hge
                        · have dk : decide ((k : Int) < 248) = true := decide_eq_true (by omega)
                          have hx : wr.cell? (ad.add k) = some (.int .u8 (b8 xs k)) := by
                            obtain ⟨ad', e, hx⟩ := (HX.out.below N5.out.bel).cells (by omega)
                            obtain rfl := Option.some.inj e
                            exact hx k (by omega)
                          cases hz : (b8 xs k == 0) with
                          | false =>
                            have hd := Aside0.mk (show refE xs = 92 from by unfold refE; rw [if_pos hd0.out, if_pos q3.out, if_pos g123.out, if_neg (fun j => by have := (rfZ_iff xs hln).1 j.2.1 k (by omega) hlt; rw [this] at hz; exact absurd hz (by decide))])
                            clear hI hm hE hC
                            go_wp2_with fail
                            have hL := rmload (row8_set (.int .i64 0) (.int .i64 0) (.int .i64 0) (.int .i64 0) (.int .i64 0) (.int .i64 0) (.int .i64 0) (.slice none 0 0) N5.out.res)
                            refine bodyPost_ret (v := .tuple #[.agg #[.int .i64 0, .int .i64 0, .int .i64 0, .int .i64 0, .int .i64 0, .int .i64 0, .int .i64 0, .slice none 0 0], .int .i64 92]) (by simp [results, Try.results85, asAddr, hL]) rfl ⟨below_set8 _ _ _ _ _ _ _ _ N5.out.bel (Nat.le_refl _), .inl ⟨by rw [hd.out]; decide, by rw [hd.out]⟩⟩
                          | true =>
                            have hz0 := Aside0.mk (beq_iff_eq.1 hz)
                            go_wp2_with fail
                            go_roundg (248 - (k + 1))
                            case measure => have := hm.out; omega
                            case rel => exact ⟨k + 1, ⟨by have := hm.out; omega⟩, rfl, by go_num, ⟨by omega, by omega⟩, ⟨fun i h1 h2 => by rcases Nat.lt_or_ge i k with h | h; exact hI.out i h1 h; rw [show i = k by omega]; exact hz0.out⟩⟩
                        · obtain rfl : k = 248 := by omega
                          have hZ := Aside0.mk ((rfZ_iff xs hln).2 (fun i h1 h2 => hI.out i (by omega) h2))
                          have hcl : (rfCu xs).length = qn := by rw [hC, List.length_take, List.length_drop]; omega
                          have hrw : 8 + 4 * rfW xs = 40 := by unfold rfW; rw [hw]; rfl
                          obtain ⟨y0, y1, y2, y3, y4, y5, y6, y7⟩ := row8_cells N5.out.row
                          have hLm := rmload N5.out.row
                          have hE8 : rfEnd xs ≤ 248 := by omega
                          have hE9 := Aside0.mk hE8
                          clear hI hm hE hC hE8
                          cases hR : mrightB (b8 xs 4) (b8 xs 5) (b8 xs 6) (rfN xs 0) (rfN xs 1) (rfN xs 2) (rfN xs 3) qn with
                          | false =>
                            have hd := Aside0.mk (show refE xs = 92 from by unfold refE; rw [if_pos hd0.out, if_pos q3.out, if_pos g123.out, if_neg (fun j => by rw [hcl, hR] at j; exact Bool.noConfusion j.2.2)])
                            go_wp2_with (go_at_call 39; (with_reducible refine (rmright_any (b8 xs 4) (b8 xs 5) (b8 xs 6) (rfN xs 0) (rfN xs 1) (rfN xs 2) (rfN xs 3) (cutA (some ad) c 40) qn (c - 40) wr (by omega)).mono ?_); rintro e w6 ⟨rfl, hB6⟩; rw [hR]; (have N6 := Aside0.mk (N5.out.step hB6)); clear hB6; (obtain ⟨x0, x1, x2, x3, x4, x5, x6, x7⟩ := row8_cells N6.out.res); (have xf := fun j => Go.Joins.unfrozen_of_block N6.out.res j); (have hLm6 := rmload N6.out.row); (obtain ⟨v0, v1, v2, v3, v4, v5, v6, v7⟩ := row8_cells N6.out.row))
                            have hL := rmload (row8_set (.int .i64 0) (.int .i64 0) (.int .i64 0) (.int .i64 0) (.int .i64 0) (.int .i64 0) (.int .i64 0) (.slice none 0 0) N6.out.res)
                            refine bodyPost_ret (v := .tuple #[.agg #[.int .i64 0, .int .i64 0, .int .i64 0, .int .i64 0, .int .i64 0, .int .i64 0, .int .i64 0, .slice none 0 0], .int .i64 92]) (by simp [results, Try.results85, asAddr, hL]) rfl ⟨below_set8 _ _ _ _ _ _ _ _ N6.out.bel (Nat.le_refl _), .inl ⟨by rw [hd.out]; decide, by rw [hd.out]⟩⟩
                          | true =>
                            have hd := Aside0.mk (show refE xs = 0 from by unfold refE; rw [if_pos hd0.out, if_pos q3.out, if_pos g123.out, if_pos ⟨hE9.out, hZ.out, by rw [hcl]; exact hR⟩])
                            go_wp2_with (go_at_call 39; (with_reducible refine (rmright_any (b8 xs 4) (b8 xs 5) (b8 xs 6) (rfN xs 0) (rfN xs 1) (rfN xs 2) (rfN xs 3) (cutA (some ad) c 40) qn (c - 40) wr (by omega)).mono ?_); rintro e w6 ⟨rfl, hB6⟩; rw [hR]; (have N6 := Aside0.mk (N5.out.step hB6)); clear hB6; (obtain ⟨x0, x1, x2, x3, x4, x5, x6, x7⟩ := row8_cells N6.out.res); (have xf := fun j => Go.Joins.unfrozen_of_block N6.out.res j); (have hLm6 := rmload N6.out.row); (obtain ⟨v0, v1, v2, v3, v4, v5, v6, v7⟩ := row8_cells N6.out.row))
                            have hL := rmload (row8_set (.int .i64 (b8 xs 4)) (.int .i64 (b8 xs 5)) (.int .i64 (b8 xs 6)) (.int .i64 (rfN xs 0)) (.int .i64 (rfN xs 1)) (.int .i64 (rfN xs 2)) (.int .i64 (rfN xs 3)) (.slice (cutA (some ad) c 40) qn (c - 40)) N6.out.res)
                            refine bodyPost_ret (v := .tuple #[.agg #[.int .i64 (b8 xs 4), .int .i64 (b8 xs 5), .int .i64 (b8 xs 6), .int .i64 (rfN xs 0), .int .i64 (rfN xs 1), .int .i64 (rfN xs 2), .int .i64 (rfN xs 3), .slice (cutA (some ad) c 40) qn (c - 40)], .int .i64 0]) (by simp [results, Try.results85, asAddr, hL]) rfl ⟨below_set8 _ _ _ _ _ _ _ _ N6.out.bel (Nat.le_refl _), .inr ⟨hd.out, ?_⟩⟩
                            unfold rfA rfC
                            rw [hcl, hrw]
  ·
    have q : ((n : Int) == 256) = false := beq_eq_false_iff_ne.2 (by omega)
    have hd := Aside0.mk (show refE xs = 90 from if_neg (fun k => by omega))
    have hL := rmload hr.out
    go_enter Try.func85, Try.ntmps85
    go_wp2
    refine bodyPost_ret (v := .tuple #[.agg #[.int .i64 0, .int .i64 0, .int .i64 0, .int .i64 0, .int .i64 0, .int .i64 0, .int .i64 0, .slice none 0 0], .int .i64 90]) (by simp [results, Try.results85, asAddr, hL]) rfl ⟨HB.out, .inl ⟨by rw [hd.out]; decide, by rw [hd.out]⟩⟩

end Go.Proofs.Ythhalmjapiempaa
