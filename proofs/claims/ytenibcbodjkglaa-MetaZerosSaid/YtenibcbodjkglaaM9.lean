/- The walks of regaugeref09's number, and what its Decode reads. -/
import Derived.Test.YtenibcbodjkglaaM8
import Derived.Test.YtenibcbodjkglaaM6
set_option linter.unusedVariables false
set_option linter.unusedSimpArgs false
namespace Go.Proofs.Ytenibcbodjkglaa
open Go.RowKit

def numR (xs : List UInt8) : Int := if leN (xs.drop 1) ≤ 1099511627776 then (leN xs : Int) else -1
theorem leN_drop_le (xs : List UInt8) (j : Nat) : leN (xs.drop j) ≤ leN xs := by
  induction xs generalizing j with
  | nil => simp
  | cons x t ih =>
    cases j with
    | zero => exact Nat.le_refl _
    | succ j => rw [List.drop_succ_cons]; have := ih j; rw [leN]; omega
theorem leN_step (xs : List UInt8) (j : Nat) (h : j < xs.length) : (leN (xs.drop j) : Int) = (leN (xs.drop (j + 1)) : Int) * 256 + b8 xs j := by
  rw [List.drop_eq_getElem_cons h, leN]
  simp [b8, List.getD_eq_getElem?_getD, List.getElem?_eq_getElem h]
  omega
set_option maxHeartbeats 1000000 in
set_option maxRecDepth 100000 in
theorem number_any (A : Option Addr) (n c : Nat) (xs : List UInt8) (w : World) (hb : Bs w A n c xs) (h8 : n ≤ 8) :
    Calls Try.prog 43 #[.slice A n c] w fun e w' => e = .returned (.int .i64 (numR xs)) ∧ w = w' := by
  have hlim := hb.lim
  go_enter Try.func43, Try.ntmps43
  go_wp2_with fail
  go_loopg [3, 4] n (fun g v2 v3 wr => ∃ k, Aside0 (g = k) ∧ wr = w ∧ v3 = .int .i64 ((k : Int) - 1) ∧ Aside (k ≤ n) ∧ v2 = .int .i64 (leN (xs.drop k) : Int) ∧ Aside0 (k + 1 ≤ n → leN (xs.drop (k + 1)) ≤ 1099511627776))
  case atStart => exact ⟨n, ⟨rfl⟩, rfl, rfl, Nat.le_refl _, by rw [← hb.len, List.drop_length]; rfl, ⟨fun h => absurd h (by omega)⟩⟩
  case round =>
    obtain ⟨k, hg, rfl, rfl, hk, rfl, hI⟩ := hrel
    rcases Nat.eq_zero_or_pos k with rfl | hp
    · go_wp2_with fail
      go_ret
      refine ⟨ret_int ?_, rfl⟩
      unfold numR
      rcases Nat.eq_zero_or_pos n with h0 | h0
      · have : xs = [] := List.eq_nil_of_length_eq_zero (by rw [hb.len, h0])
        subst this
        rfl
      · rw [if_pos (hI.out (by omega)), List.drop_zero]
    · obtain ⟨k, rfl⟩ : ∃ j, k = j + 1 := ⟨k - 1, by omega⟩
      have hkn : k < n := by have := hk.out; omega
      have i0 : ((k + 1 : Nat) : Int) - 1 = (k : Int) := by omega
      obtain ⟨ad, rfl, hx⟩ := hb.atN k hkn
      have hx0 := b8_lo xs k
      have hx1 := b8_hi xs k
      obtain ⟨q, hq⟩ : ∃ q, leN (xs.drop (k + 1)) = q := ⟨_, rfl⟩
      have hs := Aside0.mk (leN_step xs k (by rw [hb.len]; exact hkn))
      by_cases hbig : q ≤ 1099511627776
      · have f1 : decide (1099511627776 < (q : Int)) = false := decide_eq_false (by omega)
        rw [hq, i0]
        rw [hq] at hs
        go_wp2_with fail
        go_roundg k
        case measure => have := hg.out; omega
        case rel => exact ⟨k, ⟨rfl⟩, rfl, by go_num, Nat.le_of_lt hkn, by rw [hs.out], ⟨fun _ => by rw [hq]; exact hbig⟩⟩
      · have f1 : decide (1099511627776 < (q : Int)) = true := decide_eq_true (by omega)
        rw [hq, i0]
        go_wp2_with fail
        go_ret
        refine ⟨ret_int ?_, rfl⟩
        have hm := leN_drop_le (xs.drop 1) k
        rw [List.drop_drop, show 1 + k = k + 1 by omega, hq] at hm
        unfold numR
        rw [if_neg (by omega)]

theorem rmload {W : World} {g : Nat} {a b c d e f k i : Value} (h : W.heap[g]? = some (.cells #[a, b, c, d, e, f, k, i] 24)) : (loadVar 24 ⟨g, 0, none⟩).run Try.prog W = .ok (.agg #[a, b, c, d, e, f, k, i]) W :=
  run_loadVar_row W g 24 24 _ (0, 0) _ h Try.underlying24 rfl (by kernel_rfl)

def rfW (xs : List UInt8) : Nat := (iwI (b8 xs 4)).toNat
def rfN (xs : List UInt8) (k : Nat) : Int := numR ((xs.drop (8 + k * rfW xs)).take (rfW xs))
def rfEnd (xs : List UInt8) : Nat := 8 + 4 * rfW xs + (b8 xs 7).toNat
def rfCu (xs : List UInt8) : List UInt8 := (xs.drop (8 + 4 * rfW xs)).take (b8 xs 7).toNat
def rfZ (xs : List UInt8) : Bool := ((xs.take 248).drop (rfEnd xs)).all (fun b => b == 0)
def rfA (A : Option Addr) (c : Nat) (xs : List UInt8) : Option Addr := cutA A c (8 + 4 * rfW xs)
def rfC (c : Nat) (xs : List UInt8) : Nat := c - (8 + 4 * rfW xs)
theorem rfZ_iff (xs : List UInt8) (h : xs.length = 256) : rfZ xs = true ↔ ∀ i, rfEnd xs ≤ i → i < 248 → b8 xs i = 0 := by
  unfold rfZ
  rw [List.all_eq_true]
  constructor
  · intro k i h1 h2
    have hg : xs.getD i 0 ∈ (xs.take 248).drop (rfEnd xs) := by
      refine List.mem_iff_getElem.2 ⟨i - rfEnd xs, by simp only [List.length_drop, List.length_take]; omega, ?_⟩
      rw [List.getElem_drop, List.getElem_take, List.getD_eq_getElem?_getD, List.getElem?_eq_getElem (by omega)]
      simp only [Option.getD_some, show rfEnd xs + (i - rfEnd xs) = i by omega]
    have hz := beq_iff_eq.1 (k _ hg)
    unfold b8
    rw [hz]
    rfl
  · intro k b hb
    obtain ⟨i, hi, rfl⟩ := List.mem_iff_getElem.1 hb
    simp only [List.length_drop, List.length_take] at hi
    have hz := k (rfEnd xs + i) (by omega) (by omega)
    unfold b8 at hz
    rw [List.getD_eq_getElem?_getD, List.getElem?_eq_getElem (by omega)] at hz
    rw [List.getElem_drop, List.getElem_take]
    exact beq_iff_eq.2 (UInt8.toNat_inj.1 (by simpa using hz))
/-- Why the reference's Decode says no; 0: it does not. -/
def refE (xs : List UInt8) : Int :=
  if xs.length = 256 ∧ xs.take 4 = magicL ∧ (xs.take 252).drop 248 = tailL then
    if rsealB xs 252 = xs then
      if 1 ≤ b8 xs 4 ∧ b8 xs 4 ≤ 3 ∧ b8 xs 6 ≤ 3 then
        if rfEnd xs ≤ 248 ∧ rfZ xs = true ∧ mrightB (b8 xs 4) (b8 xs 5) (b8 xs 6) (rfN xs 0) (rfN xs 1) (rfN xs 2) (rfN xs 3) (rfCu xs).length = true then 0 else 92
      else 93
    else 91
  else 90
theorem ref_ok {xs : List UInt8} (h : refE xs = 0) : xs.length = 256 ∧ xs.take 4 = magicL ∧ (xs.take 252).drop 248 = tailL ∧ rsealB xs 252 = xs ∧ 1 ≤ b8 xs 4 ∧ b8 xs 4 ≤ 3 ∧ b8 xs 6 ≤ 3 ∧ rfEnd xs ≤ 248 ∧ rfZ xs = true ∧ mrightB (b8 xs 4) (b8 xs 5) (b8 xs 6) (rfN xs 0) (rfN xs 1) (rfN xs 2) (rfN xs 3) (rfCu xs).length = true := by
  unfold refE at h
  split at h
  · rename_i h1
    split at h
    · rename_i h2
      split at h
      · rename_i h3
        split at h
        · rename_i h4
          exact ⟨h1.1, h1.2.1, h1.2.2, h2, h3.1, h3.2.1, h3.2.2, h4.1, h4.2.1, h4.2.2⟩
        · omega
      · omega
    · omega
  · omega
theorem rfCu_bs {W : World} {A : Option Addr} {n c : Nat} {xs : List UInt8} (h : refE xs = 0) (hb : Bs W A n c xs) : Bs W (rfA A c xs) (rfCu xs).length (rfC c xs) (rfCu xs) := by
  obtain ⟨h1, _, _, _, _, _, _, h2, _⟩ := ref_ok h
  have hl := hb.len
  unfold rfEnd at h2
  have hk := (hb.drop (8 + 4 * rfW xs) (by omega)).take (b8 xs 7).toNat (by omega)
  have hc : (rfCu xs).length = (b8 xs 7).toNat := by unfold rfCu; rw [List.length_take, List.length_drop]; omega
  rw [hc]
  exact hk
/-- The reference's meta in its box, as Decode fills it. -/
structure NB (w : World) (g : Nat) (u : Array Value) (W : World) : Prop where
  bel : Below w.heap.size w W
  res : W.heap[w.heap.size]? = some (.cells #[.int .i64 0, .int .i64 0, .int .i64 0, .int .i64 0, .int .i64 0, .int .i64 0, .int .i64 0, .slice none 0 0] 24)
  row : W.heap[g]? = some (.cells u 24)
  lo : w.heap.size < g
theorem NB.step {w W W1 : World} {g : Nat} {u : Array Value} (h : NB w g u W) (hB : Below W.heap.size W W1) : NB w g u W1 :=
  ⟨below_then h.bel h.bel.size hB, (hB.block _ (Array.getElem?_eq_some_iff.1 h.res).1).trans h.res, (hB.block _ (Array.getElem?_eq_some_iff.1 h.row).1).trans h.row, h.lo⟩
theorem NB.set {w W : World} {g : Nat} {u : Array Value} (h : NB w g u W) (j : Nat) (v : Value) : NB w g (u.setIfInBounds j v) (W.setCell ⟨g, j, none⟩ v) :=
  ⟨below_set _ h.bel (Nat.le_of_lt h.lo), (((OnlyB.refl g W).set j v).block _ (Array.getElem?_eq_some_iff.1 h.res).1 (Nat.ne_of_lt h.lo)).trans h.res, heap_setCell_same W g j _ _ v h.row, h.lo⟩

end Go.Proofs.Ytenibcbodjkglaa
