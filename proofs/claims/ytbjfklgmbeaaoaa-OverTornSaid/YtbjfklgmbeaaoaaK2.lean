/- The walks of page's HeadOf and Body. -/
import Derived.Test.YtbjfklgmbeaaoaaK1
import Derived.Test.YtbjfklgmbeaaoaaZ4
set_option linter.unusedVariables false
set_option linter.unusedSimpArgs false
namespace Go.Proofs.Ytbjfklgmbeaaoaa
open Go.RowKit

theorem hload {W : World} {g : Nat} {a b c d : Value} (h : W.heap[g]? = some (.cells #[a, b, c, d] 53)) : (loadVar 53 ⟨g, 0, none⟩).run Try.prog W = .ok (.agg #[a, b, c, d]) W :=
  run_loadVar_row W g 53 53 _ (0, 0) _ h Try.underlying53 rfl (by kernel_rfl)
theorem row4_set {W : World} {g : Nat} {T : TypeId} {x y z u : Value} (a b c d : Value) (h : W.heap[g]? = some (.cells #[x, y, z, u] T)) :
    ((((W.setCell ⟨g, 0, none⟩ a).setCell ⟨g, 1, none⟩ b).setCell ⟨g, 2, none⟩ c).setCell ⟨g, 3, none⟩ d).heap[g]? = some (.cells #[a, b, c, d] T) :=
  heap_setCell_same _ g 3 _ _ d (heap_setCell_same _ g 2 _ _ c (heap_setCell_same _ g 1 _ _ b (heap_setCell_same W g 0 _ _ a h)))
theorem only_set4 {W : World} {g : Nat} (a b c d : Value) : OnlyB g W ((((W.setCell ⟨g, 0, none⟩ a).setCell ⟨g, 1, none⟩ b).setCell ⟨g, 2, none⟩ c).setCell ⟨g, 3, none⟩ d) :=
  ((((OnlyB.refl g W).set 0 a).set 1 b).set 2 c).set 3 d
theorem below_onlyb {B g : Nat} {w0 w w1 : World} (hb : Below B w0 w) (ho : OnlyB g w w1) (hg : B ≤ g) (hs : B ≤ w0.heap.size) : Below B w0 w1 := ho.below hb hg hs
/-- A reader in memory, and rows that stand beside it. -/
structure HR (w : World) (g : Nat) (A : Option Addr) (n c : Nat) (xs : List UInt8) (R : List (Nat × Obj)) (a : Nat) (sp : Bool) (W : World) : Prop where
  cur : Cur W g 105 A n c a sp
  bs : Bs W A n c xs
  ne : ∀ ad, A = some ad → 0 < n → ad.block ≠ g
  lo : w.heap.size ≤ g
  bel : Below w.heap.size w W
  rows : ∀ p ∈ R, W.heap[p.1]? = some p.2 ∧ p.1 ≠ g ∧ (∀ ad, A = some ad → 0 < n → ad.block ≠ p.1)
theorem HR.step {w : World} {g : Nat} {A : Option Addr} {n c : Nat} {xs : List UInt8} {R : List (Nat × Obj)} {a : Nat} {sp : Bool} {W W1 : World} (h : HR w g A n c xs R a sp W) (hB : Below W.heap.size W W1) : HR w g A n c xs R a sp W1 :=
  ⟨h.cur.below hB, h.bs.below hB, h.ne, h.lo, below_then h.bel h.bel.size hB, fun p hp => ⟨(hB.block _ (Array.getElem?_eq_some_iff.1 (h.rows p hp).1).1).trans (h.rows p hp).1, (h.rows p hp).2⟩⟩
theorem HR.go {w : World} {g : Nat} {A : Option Addr} {n c : Nat} {xs : List UInt8} {R : List (Nat × Obj)} {a a1 : Nat} {sp sp1 : Bool} {W W1 : World} (h : HR w g A n c xs R a sp W) (ho : OnlyB g W W1) (hc : Cur W1 g 105 A n c a1 sp1) : HR w g A n c xs R a1 sp1 W1 :=
  ⟨hc, h.bs.only ho h.ne, h.ne, h.lo, ho.below h.bel h.lo (Nat.le_refl _), fun p hp => ⟨(ho.block _ (Array.getElem?_eq_some_iff.1 (h.rows p hp).1).1 (h.rows p hp).2.1).trans (h.rows p hp).1, (h.rows p hp).2⟩⟩
theorem HR.lit {w : World} {g : Nat} {A : Option Addr} {n c : Nat} {xs : List UInt8} {R : List (Nat × Obj)} {a : Nat} {sp : Bool} {W : World} (h : HR w g A n c xs R a sp W) (o : Obj) : HR w g A n c xs ((W.heap.size, o) :: R) a sp (W.alloc o) := by
  have h1 := h.step ((Below.refl _ W).alloc (Nat.le_refl _) o)
  refine ⟨h1.cur, h1.bs, h1.ne, h1.lo, h1.bel, fun p hp => ?_⟩
  rcases List.mem_cons.1 hp with rfl | hp
  · have hg := (Array.getElem?_eq_some_iff.1 h.cur.row).1
    exact ⟨heap_alloc_new W o, by show W.heap.size ≠ g; omega, fun ad e h0 => by have := h.bs.lt ad e h0; show ad.block ≠ W.heap.size; omega⟩
  · exact h1.rows p hp
theorem HR.new {w w0 w1 : World} {g : Nat} {A : Option Addr} {n c : Nat} {xs : List UInt8} {R : List (Nat × Obj)} (hB0 : Below w.heap.size w w0) (hg : w0.heap.size ≤ g) (hne : ∀ ad, A = some ad → 0 < n → ad.block ≠ g) (hc : Cur w1 g 105 A n c 0 false) (hO : Ow w1 w0.heap.size A n c xs) (hB : Below w0.heap.size w0 w1) (hR : ∀ p ∈ R, w0.heap[p.1]? = some p.2) : HR w g A n c xs R 0 false w1 := by
  refine ⟨hc, hO.bs, hne, Nat.le_trans hB0.size hg, below_then hB0 hB0.size hB, fun p hp => ?_⟩
  have h1 := hR p hp
  have h2 := (Array.getElem?_eq_some_iff.1 h1).1
  refine ⟨(hB.block _ h2).trans h1, by omega, fun ad e h0 => ?_⟩
  obtain ⟨q, e2, hq, _⟩ := hO.head h0
  rw [e2] at e
  injection e with e
  subst e
  show q ≠ p.1
  omega
/-- A row of the ones that stand is written. -/
theorem HR.turn {w : World} {g : Nat} {A : Option Addr} {n c : Nat} {xs : List UInt8} {R : List (Nat × Obj)} {a : Nat} {sp : Bool} {W W1 : World} {i : Nat} {o o1 : Obj} (h : HR w g A n c xs ((i, o) :: R) a sp W) (ho : OnlyB i W W1) (hi : w.heap.size ≤ i) (hne : ∀ p ∈ R, p.1 ≠ i) (hr : W1.heap[i]? = some o1) : HR w g A n c xs ((i, o1) :: R) a sp W1 := by
  have hii := h.rows (i, o) List.mem_cons_self
  refine ⟨⟨(ho.block _ (Array.getElem?_eq_some_iff.1 h.cur.row).1 (fun e => hii.2.1 e.symm)).trans h.cur.row, h.cur.le, h.cur.lim, h.cur.nc⟩, h.bs.only ho hii.2.2, h.ne, h.lo, ho.below h.bel hi (Nat.le_refl _), fun p hp => ?_⟩
  rcases List.mem_cons.1 hp with rfl | hp
  · exact ⟨hr, hii.2.1, hii.2.2⟩
  · have hq := h.rows p (List.mem_cons_of_mem _ hp)
    exact ⟨(ho.block _ (Array.getElem?_eq_some_iff.1 hq.1).1 (hne p hp)).trans hq.1, hq.2⟩
theorem HR.perm {w : World} {g : Nat} {A : Option Addr} {n c : Nat} {xs : List UInt8} {R R1 : List (Nat × Obj)} {a : Nat} {sp : Bool} {W : World} (h : HR w g A n c xs R a sp W) (hs : ∀ p ∈ R1, p ∈ R) : HR w g A n c xs R1 a sp W :=
  ⟨h.cur, h.bs, h.ne, h.lo, h.bel, fun p hp => h.rows p (hs p hp)⟩

def hK (xs : List UInt8) : Int := b8 xs 0
def hG (xs : List UInt8) : Int := b8 xs 1
def hC (xs : List UInt8) : Int := (leN ((xs.drop 2).take 2) : Int)
def hFr (xs : List UInt8) : Nat := if 1 < hG xs then 8 else 4
def hNx (xs : List UInt8) : Int := (leN ((xs.drop (hFr xs)).take (iwI (hG xs)).toNat) : Int)
def hE (xs : List UInt8) : Int := if 4 ≤ xs.length ∧ knownB (hK xs) (hG xs) = true then (if hFr xs + (iwI (hG xs)).toNat ≤ xs.length ∧ hNx xs ≤ 9223372036854775807 then 0 else 72) else 70
def hV (xs : List UInt8) : Array Value := if hE xs = 0 then #[.int .i64 (hK xs), .int .i64 (hG xs), .int .i64 (hC xs), .int .i64 (hNx xs)] else #[.int .i64 0, .int .i64 0, .int .i64 0, .int .i64 0]
theorem leN_one (x : UInt8) : leN [x] = x.toNat := by simp [leN]
theorem get8 (xs : List UInt8) (a : Nat) (h : a < xs.length) : (xs.drop a).take 1 = [xs.getD a 0] := by
  rw [List.drop_eq_getElem_cons h, List.take_succ_cons, List.take_zero, List.getD_eq_getElem?_getD, List.getElem?_eq_getElem h]
  rfl
theorem leN_b8 (xs : List UInt8) (a : Nat) (h : a < xs.length) : (leN ((xs.drop a).take 1) : Int) = b8 xs a := by
  rw [get8 xs a h, leN_one]
  rfl
theorem leN_lt : ∀ xs : List UInt8, leN xs < 256 ^ xs.length
  | [] => by simp [leN]
  | x :: r => by
    have h := leN_lt r
    have hx := x.toNat_lt
    simp only [leN, List.length_cons, Nat.pow_succ]
    omega
theorem leN_small (xs : List UInt8) (a m : Nat) (hm : m ≤ 7) : leN ((xs.drop a).take m) ≤ 9223372036854775807 := by
  have h := leN_lt ((xs.drop a).take m)
  have hl : ((xs.drop a).take m).length ≤ 7 := by rw [List.length_take]; omega
  have := Nat.pow_le_pow_right (show 0 < 256 by omega) hl
  have : (256 : Nat) ^ 7 = 72057594037927936 := by decide
  omega
theorem ok_small {n a : Nat} {xs : List UInt8} {m : Int} (h1 : 1 ≤ m) (h2 : m ≤ 7) (ha : a + m.toNat ≤ n) : getOk n a false m xs = true := by
  have := leN_small xs a m.toNat (by omega)
  unfold getOk
  exact decide_eq_true ⟨rfl, h1, by omega, ha, this⟩
theorem ok_sp {n a : Nat} {xs : List UInt8} {m : Int} : getOk n a true m xs = false := decide_eq_false (fun q => by cases q.1)
theorem ok_lo {n a : Nat} {xs : List UInt8} {m : Int} (sp : Bool) (h : n < a + m.toNat) : getOk n a sp m xs = false := decide_eq_false (fun q => by omega)
theorem ok_in {n a : Nat} {xs : List UInt8} {m : Int} (h1 : 1 ≤ m) (h2 : m ≤ 8) (ha : a + m.toNat ≤ n) (hv : leN ((xs.drop a).take m.toNat) ≤ 9223372036854775807) : getOk n a false m xs = true := decide_eq_true ⟨rfl, h1, h2, ha, hv⟩
theorem iw_in {g : Int} (h : 1 ≤ g ∧ g ≤ 3) : iwI g = 4 ∨ iwI g = 8 := by
  rcases (show g = 1 ∨ g = 2 ∨ g = 3 by omega) with rfl | rfl | rfl
  · exact .inl rfl
  · exact .inr rfl
  · exact .inr rfl
theorem skip4 {W : World} {g : Nat} {T : TypeId} {A : Option Addr} {n c : Nat} (h : ((false = true ∨ (4 : Int) < 0 ∨ (n : Int) - ((4 : Nat) : Int) < 4) ∧ Cur W g T A n c 4 true) ∨ (false = false ∧ 0 ≤ (4 : Int) ∧ 4 + (4 : Int).toNat ≤ n ∧ Cur W g T A n c (4 + (4 : Int).toNat) false)) :
    ∃ a s, Cur W g T A n c a s ∧ ((s = false ∧ a = 8 ∧ 8 ≤ n) ∨ (s = true ∧ n < 8)) := by
  rcases h with ⟨h, hc⟩ | ⟨_, _, h, hc⟩
  · refine ⟨4, true, hc, .inr ⟨rfl, ?_⟩⟩
    rcases h with h | h | h
    · cases h
    · omega
    · omega
  · exact ⟨8, false, hc, .inl ⟨rfl, rfl, h⟩⟩
/-- Fewer than four bytes: the third number is not there. -/
theorem short3 {n : Nat} {xs : List UInt8} (h : n < 4) : getOk n (getA n (getA n 0 false 1 xs) (!getOk n 0 false 1 xs) 1 xs) (!getOk n (getA n 0 false 1 xs) (!getOk n 0 false 1 xs) 1 xs) 2 xs = false := by
  cases h1 : getOk n 0 false 1 xs with
  | false => 
    have e : getOk n (getA n 0 false 1 xs) (!false) 1 xs = false := ok_sp
    rw [e]
    exact ok_sp
  | true =>
    have a1 : getA n 0 false 1 xs = 1 := by unfold getA; rw [if_pos h1]; rfl
    rw [a1]
    cases h2 : getOk n 1 (!true) 1 xs with
    | false => exact ok_sp
    | true =>
      have a2 : getA n 1 (!true) 1 xs = 2 := by unfold getA; rw [if_pos h2]; rfl
      rw [a2]
      exact ok_lo _ (by show n < 2 + 2; omega)

set_option maxHeartbeats 16000000 in
set_option maxRecDepth 100000 in
theorem headOf_any (A : Option Addr) (n c : Nat) (xs : List UInt8) (w : World) (hb : Bs w A n c xs) :
    Calls Try.prog 25 #[.slice A n c] w fun e w' => e = .returned (.tuple #[.agg (hV xs), .int .i64 (hE xs)]) ∧ Below w.heap.size w w' := by
  have hxl := hb.len
  have hB0 := (Below.refl _ w).alloc (Nat.le_refl _) (.cells #[.int .i64 0, .int .i64 0, .int .i64 0, .int .i64 0] 53)
  have H0 := Aside0.mk (And.intro (hb.below hB0) (And.intro (heap_alloc_new w (.cells #[.int .i64 0, .int .i64 0, .int .i64 0, .int .i64 0] 53)) (And.intro hB0 (show (w.alloc (.cells #[.int .i64 0, .int .i64 0, .int .i64 0, .int .i64 0] 53)).heap.size = w.heap.size + 1 by simp))))
  obtain ⟨v1, a1, s1, E1⟩ : ∃ v a s, getV n 0 false 1 xs = v ∧ getA n 0 false 1 xs = a ∧ (!getOk n 0 false 1 xs) = s := ⟨_, _, _, rfl, rfl, rfl⟩
  obtain ⟨v2, a2, s2, E2⟩ : ∃ v a s, getV n a1 s1 1 xs = v ∧ getA n a1 s1 1 xs = a ∧ (!getOk n a1 s1 1 xs) = s := ⟨_, _, _, rfl, rfl, rfl⟩
  obtain ⟨v3, a3, s3, E3⟩ : ∃ v a s, getV n a2 s2 2 xs = v ∧ getA n a2 s2 2 xs = a ∧ (!getOk n a2 s2 2 xs) = s := ⟨_, _, _, rfl, rfl, rfl⟩
  have HF := Aside0.mk (show (xs.length < 4 ∧ s3 = true) ∨ (4 ≤ xs.length ∧ v1 = hK xs ∧ v2 = hG xs ∧ v3 = hC xs ∧ a3 = 4 ∧ s3 = false) by
    rcases Nat.lt_or_ge n 4 with q | q
    · refine .inl ⟨by omega, ?_⟩
      have h := short3 (n := n) (xs := xs) q
      rw [E1.2.1, E1.2.2, E2.2.1, E2.2.2] at h
      rw [← E3.2.2, h]
      rfl
    · have k1 := ok_small (n := n) (a := 0) (xs := xs) (m := 1) (by omega) (by omega) (show 0 + 1 ≤ n by omega)
      obtain ⟨e1, e2, e3⟩ := E1
      unfold getV at e1; unfold getA at e2
      rw [if_pos k1] at e1 e2; rw [k1] at e3
      subst e2 e3
      have k2 := ok_small (n := n) (a := 0 + (1 : Int).toNat) (xs := xs) (m := 1) (by omega) (by omega) (show 1 + 1 ≤ n by omega)
      obtain ⟨f1, f2, f3⟩ := E2
      have k2' : getOk n (0 + (1 : Int).toNat) (!true) 1 xs = true := k2
      unfold getV at f1; unfold getA at f2
      rw [if_pos k2'] at f1 f2; rw [k2'] at f3
      subst f2 f3
      have k3 := ok_small (n := n) (a := 0 + (1 : Int).toNat + (1 : Int).toNat) (xs := xs) (m := 2) (by omega) (by omega) (show 2 + 2 ≤ n by omega)
      obtain ⟨g1, g2, g3⟩ := E3
      have k3' : getOk n (0 + (1 : Int).toNat + (1 : Int).toNat) (!true) 2 xs = true := k3
      unfold getV at g1; unfold getA at g2
      rw [if_pos k3'] at g1 g2; rw [k3'] at g3
      subst g2 g3
      exact .inr ⟨by omega, by rw [← e1]; exact leN_b8 xs 0 (by omega), by rw [← f1]; exact leN_b8 xs 1 (by omega), g1.symm, rfl, rfl⟩)
  replace E1 := Aside0.mk E1
  replace E2 := Aside0.mk E2
  replace E3 := Aside0.mk E3
  have HL := Aside0.mk hxl
  clear hb hB0 hxl
  go_enter Try.func25, Try.ntmps25
  go_upto_region 1 with fail
  obtain ⟨w0, hw0⟩ : ∃ X, w.alloc (.cells #[.int .i64 0, .int .i64 0, .int .i64 0, .int .i64 0] 53) = X := ⟨_, rfl⟩
  obtain ⟨N, hN⟩ : ∃ X, w.heap.size = X := ⟨_, rfl⟩
  rw [hw0, hN] at H0
  rw [hw0, hN]
  have HN := Aside0.mk hN
  have H0B := Aside0.mk (show Below w.heap.size w w0 by rw [hN]; exact H0.out.2.2.1)
  clear hw0 hN
  go_upto_region 2 with (go_at_call 58; refine (newReader_any A n c xs w0 H0.out.1).mono ?_; rintro e w1 ⟨g, A1, c1, rfl, hg, hne, hc, hO, hB⟩; (have H1 := Aside0.mk (HR.new (w := w) (R := [(N, (.cells #[.int .i64 0, .int .i64 0, .int .i64 0, .int .i64 0] 53))]) H0B.out hg hne hc hO hB (fun p hp => by obtain rfl := List.mem_singleton.1 hp; exact H0.out.2.1))); clear hg hne hc hO hB)
  have HGN := Aside0.mk (show N < g by have := (H1.out.rows (N, (.cells #[.int .i64 0, .int .i64 0, .int .i64 0, .int .i64 0] 53)) List.mem_cons_self).2.1; have := H1.out.lo; have := HN.out; simp only at *; omega)
  go_upto_region 3 with (first
    | (go_at_call 59; refine (get_any g A1 n c1 a2 s2 xs 2 w3 H3.out.cur H3.out.bs H3.out.ne).mono ?_; rintro e w4 ⟨rfl, ho, hc⟩; rw [E3.out.2.1, E3.out.2.2] at hc; rw [E3.out.1]; (have H4 := Aside0.mk (H3.out.go ho hc)); clear ho hc)
    | (go_at_call 59; refine (get_any g A1 n c1 a1 s1 xs 1 w2 H2.out.cur H2.out.bs H2.out.ne).mono ?_; rintro e w3 ⟨rfl, ho, hc⟩; rw [E2.out.2.1, E2.out.2.2] at hc; rw [E2.out.1]; (have H3 := Aside0.mk (H2.out.go ho hc)); clear ho hc)
    | (go_at_call 59; refine (get_any g A1 n c1 0 false xs 1 w1 H1.out.cur H1.out.bs H1.out.ne).mono ?_; rintro e w2 ⟨rfl, ho, hc⟩; rw [E1.out.2.1, E1.out.2.2] at hc; rw [E1.out.1]; (have H2 := Aside0.mk (H1.out.go ho hc)); clear ho hc)
    | fail)
  have h5 := H4.out.lit (.cells #[.int .i64 v1, .int .i64 v2, .int .i64 v3, .int .i64 0] 53)
  obtain ⟨M, hM⟩ : ∃ X, w4.heap.size = X := ⟨_, rfl⟩
  obtain ⟨w5, hw5⟩ : ∃ X, w4.alloc (.cells #[.int .i64 v1, .int .i64 v2, .int .i64 v3, .int .i64 0] 53) = X := ⟨_, rfl⟩
  have HNM := Aside0.mk (show N < M by rw [← hM]; exact (Array.getElem?_eq_some_iff.1 (H4.out.rows (N, (.cells #[.int .i64 0, .int .i64 0, .int .i64 0, .int .i64 0] 53)) List.mem_cons_self).1).1)
  rw [hw5, hM] at h5
  rw [hw5, hM]
  have H5 := Aside0.mk h5
  clear h5 hw5 hM
  cases s3 with

  | true =>
    have HS := Aside0.mk (show ¬ (4 ≤ xs.length ∧ knownB (hK xs) (hG xs) = true) from fun q => by rcases HF.out with h | h; omega; cases h.2.2.2.2.2)
    have hrN := (H5.out.rows (N, (.cells #[.int .i64 0, .int .i64 0, .int .i64 0, .int .i64 0] 53)) (List.mem_cons_of_mem _ List.mem_cons_self)).1
    obtain ⟨x0, x1, x2, x3⟩ := item_cells2 hrN
    have yN := fun j => Go.Joins.unfrozen_of_block hrN j
    have hrM := (H5.out.rows (M, .cells #[.int .i64 v1, .int .i64 v2, .int .i64 v3, .int .i64 0] 53) List.mem_cons_self).1
    obtain ⟨y0, y1, y2, y3⟩ := item_cells2 hrM
    have yM := fun j => Go.Joins.unfrozen_of_block hrM j
    have q70 : doneE true = 30 := rfl
    go_upto_region 4 with (go_at_call 60; refine (err_any g A1 n c1 a3 true w5 H5.out.cur).mono ?_; rintro e w6 ⟨rfl, rfl⟩; rw [q70])
    have hD := hload (row4_set (.int .i64 0) (.int .i64 0) (.int .i64 0) (.int .i64 0) hrN)
    have HE := Aside0.mk (show hE xs = 70 ∧ hV xs = #[.int .i64 0, .int .i64 0, .int .i64 0, .int .i64 0] from ⟨if_neg HS.out, by unfold hV; rw [if_neg (by unfold hE; rw [if_neg HS.out]; decide)]⟩)
    have HBF := Aside0.mk ((only_set4 (W := w5) (g := N) (.int .i64 0) (.int .i64 0) (.int .i64 0) (.int .i64 0)).below H5.out.bel (by have := HN.out; omega) (Nat.le_refl _))
    have HDL := Aside0.mk hD
    clear hD hrN
    go_wp2_with fail
    have hD := HDL.out
    refine bodyPost_ret (v := .tuple #[.agg #[.int .i64 0, .int .i64 0, .int .i64 0, .int .i64 0], .int .i64 70]) (by simp [results, Try.results25, asAddr, hD]) rfl ?_
    rw [HE.out.1, HE.out.2]
    exact ⟨rfl, HBF.out⟩
  | false =>
    have HF2 := Aside0.mk (HF.out.resolve_left (fun q => by cases q.2))
    obtain ⟨hx4, rfl, rfl, rfl, rfl, _⟩ := HF2.out
    have HX4 := Aside0.mk hx4
    clear hx4
    have q0 : doneE false = 0 := rfl
    have hrM := (H5.out.rows (M, .cells #[.int .i64 (hK xs), .int .i64 (hG xs), .int .i64 (hC xs), .int .i64 0] 53) List.mem_cons_self).1
    obtain ⟨y0, y1, y2, y3⟩ := item_cells2 hrM
    have yM := fun j => Go.Joins.unfrozen_of_block hrM j
    cases hk : knownB (hK xs) (hG xs) with
    | false =>
      have HK := Aside0.mk hk
      clear hk
      go_upto_region 4 with (first | (go_at_call 60; refine (err_any g A1 n c1 4 false w5 H5.out.cur).mono ?_; rintro e w6 ⟨rfl, rfl⟩; rw [q0]) | (go_at_call 61; refine (known_any (hK xs) (hG xs) (hC xs) 0 w5).mono ?_; rintro e w7 ⟨rfl, hB⟩; rw [HK.out]; (have H7 := Aside0.mk (H5.out.step hB)); clear hB))
      clear hrM y0 y1 y2 y3 yM
      have hrN := (H7.out.rows (N, (.cells #[.int .i64 0, .int .i64 0, .int .i64 0, .int .i64 0] 53)) (List.mem_cons_of_mem _ List.mem_cons_self)).1
      obtain ⟨x0, x1, x2, x3⟩ := item_cells2 hrN
      have yN := fun j => Go.Joins.unfrozen_of_block hrN j
      have HS := Aside0.mk (show ¬ (4 ≤ xs.length ∧ knownB (hK xs) (hG xs) = true) from fun q => by rw [HK.out] at q; cases q.2)
      have hD := hload (row4_set (.int .i64 0) (.int .i64 0) (.int .i64 0) (.int .i64 0) hrN)
      have HE := Aside0.mk (show hE xs = 70 ∧ hV xs = #[.int .i64 0, .int .i64 0, .int .i64 0, .int .i64 0] from ⟨if_neg HS.out, by unfold hV; rw [if_neg (by unfold hE; rw [if_neg HS.out]; decide)]⟩)
      have HBF := Aside0.mk ((only_set4 (W := w7) (g := N) (.int .i64 0) (.int .i64 0) (.int .i64 0) (.int .i64 0)).below H7.out.bel (by have := HN.out; omega) (Nat.le_refl _))
      have HDL := Aside0.mk hD
      clear hD hrN
      go_wp2_with fail
      have hD := HDL.out
      refine bodyPost_ret (v := .tuple #[.agg #[.int .i64 0, .int .i64 0, .int .i64 0, .int .i64 0], .int .i64 70]) (by simp [results, Try.results25, asAddr, hD]) rfl ?_
      rw [HE.out.1, HE.out.2]
      exact ⟨rfl, HBF.out⟩
    | true =>
      have HK := Aside0.mk hk
      have hgb : 1 ≤ hG xs ∧ hG xs ≤ 3 := by
        unfold knownB at hk
        rw [Bool.and_eq_true] at hk
        exact of_decide_eq_true hk.2
      have HGB := Aside0.mk hgb
      clear hk hgb
      go_upto_region 5 with (first | (go_at_call 60; refine (err_any g A1 n c1 4 false w5 H5.out.cur).mono ?_; rintro e w6 ⟨rfl, rfl⟩; rw [q0]) | (go_at_call 61; refine (known_any (hK xs) (hG xs) (hC xs) 0 w5).mono ?_; rintro e w7 ⟨rfl, hB⟩; rw [HK.out]; (have H7 := Aside0.mk (H5.out.step hB)); clear hB))
      clear hrM y0 y1 y2 y3 yM
      by_cases q1 : 1 < hG xs
      case neg =>
        have d1 : decide (1 < hG xs) = false := decide_eq_false q1
        obtain ⟨a5, s5, ha5, hs5, F5⟩ : ∃ a5 s5, a5 = 4 ∧ s5 = false ∧ Aside0 ((s5 = false ∧ a5 = hFr xs ∧ hFr xs ≤ n) ∨ (s5 = true ∧ n < hFr xs)) := ⟨4, false, rfl, rfl, ⟨.inl ⟨rfl, by unfold hFr; rw [if_neg q1], by unfold hFr; rw [if_neg q1]; have := HX4.out; have := HL.out; omega⟩⟩⟩
        have H7b := Aside0.mk (show HR w g A1 n c1 xs _ a5 s5 w7 by rw [ha5, hs5]; exact H7.out)
        clear q1 ha5 hs5
        have hrM := (H7b.out.rows (M, .cells #[.int .i64 (hK xs), .int .i64 (hG xs), .int .i64 (hC xs), .int .i64 0] 53) List.mem_cons_self).1
        obtain ⟨y0, y1, y2, y3⟩ := item_cells2 hrM
        have yM := fun j => Go.Joins.unfrozen_of_block hrM j
        go_upto_region 7 with (go_at_call 62; refine (summed_any (hG xs) _).mono ?_; rintro e w8 ⟨rfl, rfl⟩; rw [d1])
        clear hrM y0 y1 y2 y3 yM d1
        have hrM := (H7b.out.rows (M, .cells #[.int .i64 (hK xs), .int .i64 (hG xs), .int .i64 (hC xs), .int .i64 0] 53) List.mem_cons_self).1
        obtain ⟨y0, y1, y2, y3⟩ := item_cells2 hrM
        have yM := fun j => Go.Joins.unfrozen_of_block hrM j
        obtain ⟨v5, a6, s6, E5⟩ : ∃ v a s, getV n a5 s5 (iwI (hG xs)) xs = v ∧ getA n a5 s5 (iwI (hG xs)) xs = a ∧ (!getOk n a5 s5 (iwI (hG xs)) xs) = s := ⟨_, _, _, rfl, rfl, rfl⟩
        replace E5 := Aside0.mk E5
        go_upto_region 8 with (first | (go_at_call 64; refine (idWidth_any (hG xs) _).mono ?_; rintro e wi ⟨rfl, hB⟩; (have Hi := Aside0.mk (H7b.out.step hB)); clear hB) | (go_at_call 59; refine (get_any g A1 n c1 a5 s5 xs (iwI (hG xs)) wi Hi.out.cur Hi.out.bs Hi.out.ne).mono ?_; rintro e wj ⟨rfl, ho, hc⟩; rw [E5.out.2.1, E5.out.2.2] at hc; rw [E5.out.1]; (have Hj := Aside0.mk (Hi.out.go ho hc)); clear ho hc; clear hrM y0 y1 y2 y3 yM; (have hrM := (Hj.out.rows (M, .cells #[.int .i64 (hK xs), .int .i64 (hG xs), .int .i64 (hC xs), .int .i64 0] 53) List.mem_cons_self).1); (obtain ⟨y0, y1, y2, y3⟩ := item_cells2 hrM); (have yM := fun j => Go.Joins.unfrozen_of_block hrM j)))
        have hoM := (OnlyB.refl M wj).set 3 (.int .i64 v5)
        have hk := Hj.out.turn (o1 := .cells #[.int .i64 (hK xs), .int .i64 (hG xs), .int .i64 (hC xs), .int .i64 v5] 53) hoM (by have := HN.out; have := HNM.out; omega) (fun p hp => by obtain rfl := List.mem_singleton.1 hp; show N ≠ M; exact Nat.ne_of_lt HNM.out) (heap_setCell_same _ M 3 _ _ _ hrM)
        obtain ⟨wk, hwk⟩ : ∃ X, wj.setCell ⟨M, 3, none⟩ (.int .i64 v5) = X := ⟨_, rfl⟩
        rw [hwk] at hk ⊢
        have Hk := Aside0.mk hk
        clear hk hwk hoM hrM yM y0 y1 y2 y3
        cases s6 with
        | true =>
          have q70 : doneE true = 30 := rfl
          go_upto_region 9 with (go_at_call 60; refine (err_any g A1 n c1 a6 true wk Hk.out.cur).mono ?_; rintro e w6 ⟨rfl, rfl⟩; rw [q70])
          have hrN := (Hk.out.rows (N, (.cells #[.int .i64 0, .int .i64 0, .int .i64 0, .int .i64 0] 53)) (List.mem_cons_of_mem _ List.mem_cons_self)).1
          obtain ⟨x0, x1, x2, x3⟩ := item_cells2 hrN
          have yN := fun j => Go.Joins.unfrozen_of_block hrN j
          have HS := Aside0.mk (show ¬ (hFr xs + (iwI (hG xs)).toNat ≤ xs.length ∧ hNx xs ≤ 9223372036854775807) from fun q => by
            have hok : getOk n a5 s5 (iwI (hG xs)) xs = false := by have := E5.out.2.2; revert this; cases getOk n a5 s5 (iwI (hG xs)) xs <;> simp
            rcases F5.out with f | f
            · obtain ⟨rfl, rfl, _⟩ := f
              have hw := iw_in HGB.out
              rw [ok_in (by omega) (by omega) (by have := HL.out; omega) (by have := q.2; unfold hNx at this; omega)] at hok
              cases hok
            · have := q.1
              have := HL.out
              omega)
          have hD := hload (row4_set (.int .i64 0) (.int .i64 0) (.int .i64 0) (.int .i64 0) hrN)
          have HE := Aside0.mk (show hE xs = 72 ∧ hV xs = #[.int .i64 0, .int .i64 0, .int .i64 0, .int .i64 0] from ⟨by unfold hE; rw [if_pos ⟨HX4.out, HK.out⟩, if_neg HS.out], by unfold hV; rw [if_neg (by unfold hE; rw [if_pos ⟨HX4.out, HK.out⟩, if_neg HS.out]; decide)]⟩)
          have HBF := Aside0.mk ((only_set4 (W := wk) (g := N) (.int .i64 0) (.int .i64 0) (.int .i64 0) (.int .i64 0)).below Hk.out.bel (by have := HN.out; omega) (Nat.le_refl _))
          have HDL := Aside0.mk hD
          clear hD hrN
          go_wp2_with fail
          have hD := HDL.out
          refine bodyPost_ret (v := .tuple #[.agg #[.int .i64 0, .int .i64 0, .int .i64 0, .int .i64 0], .int .i64 72]) (by simp [results, Try.results25, asAddr, hD]) rfl ?_
          rw [HE.out.1, HE.out.2]
          exact ⟨rfl, HBF.out⟩
        | false =>
          have q0' : doneE false = 0 := rfl
          have HS := Aside0.mk (show (hFr xs + (iwI (hG xs)).toNat ≤ xs.length ∧ hNx xs ≤ 9223372036854775807) ∧ v5 = hNx xs by
            have hok : getOk n a5 s5 (iwI (hG xs)) xs = true := by have := E5.out.2.2; revert this; cases getOk n a5 s5 (iwI (hG xs)) xs <;> simp
            have hv := E5.out.1
            unfold getV at hv
            rw [if_pos hok] at hv
            obtain ⟨k1, k2, k3, k4, k5⟩ := of_decide_eq_true hok
            rcases F5.out with f | f
            · obtain ⟨_, rfl, _⟩ := f
              exact ⟨⟨by have := HL.out; omega, by unfold hNx; omega⟩, hv.symm⟩
            · rw [f.1] at k1
              cases k1)
          go_upto_region 10 with (go_at_call 60; refine (err_any g A1 n c1 a6 false wk Hk.out.cur).mono ?_; rintro e w6 ⟨rfl, rfl⟩; rw [q0'])
          have hrM := (Hk.out.rows (M, .cells #[.int .i64 (hK xs), .int .i64 (hG xs), .int .i64 (hC xs), .int .i64 v5] 53) List.mem_cons_self).1
          obtain ⟨y0, y1, y2, y3⟩ := item_cells2 hrM
          have yM := fun j => Go.Joins.unfrozen_of_block hrM j
          have hrN := (Hk.out.rows (N, (.cells #[.int .i64 0, .int .i64 0, .int .i64 0, .int .i64 0] 53)) (List.mem_cons_of_mem _ List.mem_cons_self)).1
          obtain ⟨x0, x1, x2, x3⟩ := item_cells2 hrN
          have yN := fun j => Go.Joins.unfrozen_of_block hrN j
          have hD := hload (row4_set (.int .i64 (hK xs)) (.int .i64 (hG xs)) (.int .i64 (hC xs)) (.int .i64 v5) hrN)
          have HE := Aside0.mk (show hE xs = 0 ∧ hV xs = #[.int .i64 (hK xs), .int .i64 (hG xs), .int .i64 (hC xs), .int .i64 v5] from ⟨by unfold hE; rw [if_pos ⟨HX4.out, HK.out⟩, if_pos HS.out.1], by unfold hV; rw [if_pos (by unfold hE; rw [if_pos ⟨HX4.out, HK.out⟩, if_pos HS.out.1]), HS.out.2]⟩)
          have HBF := Aside0.mk ((only_set4 (W := wk) (g := N) (.int .i64 (hK xs)) (.int .i64 (hG xs)) (.int .i64 (hC xs)) (.int .i64 v5)).below Hk.out.bel (by have := HN.out; omega) (Nat.le_refl _))
          have HDL := Aside0.mk hD
          clear hD hrN
          go_wp2_with fail
          have hD := HDL.out
          refine bodyPost_ret (v := .tuple #[.agg #[.int .i64 (hK xs), .int .i64 (hG xs), .int .i64 (hC xs), .int .i64 v5], .int .i64 0]) (by simp [results, Try.results25, asAddr, hD]) rfl ?_
          rw [HE.out.1, HE.out.2]
          exact ⟨rfl, HBF.out⟩
      case pos =>
        have d1 : decide (1 < hG xs) = true := decide_eq_true q1
        have HQ1 := Aside0.mk (show hFr xs = 8 from if_pos q1)
        clear q1
        have hrM := (H7.out.rows (M, .cells #[.int .i64 (hK xs), .int .i64 (hG xs), .int .i64 (hC xs), .int .i64 0] 53) List.mem_cons_self).1
        obtain ⟨y0, y1, y2, y3⟩ := item_cells2 hrM
        have yM := fun j => Go.Joins.unfrozen_of_block hrM j
        go_upto_region 7 with (first | (go_at_call 62; refine (summed_any (hG xs) _).mono ?_; rintro e w8 ⟨rfl, rfl⟩; rw [d1]) | (go_at_call 63; refine (skip_any g 105 A1 n c1 4 false 4 w7 H7.out.cur).mono ?_; rintro e w8 ⟨rfl, ho, hs, hc⟩; (obtain ⟨a5, s5, hc5, hF⟩ := skip4 hc); (have H8 := Aside0.mk (H7.out.go ho hc5)); (have F5 := Aside0.mk (show (s5 = false ∧ a5 = hFr xs ∧ hFr xs ≤ n) ∨ (s5 = true ∧ n < hFr xs) by rw [HQ1.out]; exact hF)); clear ho hs hc hc5 hF))
        clear hrM y0 y1 y2 y3 yM d1
        have hrM := (H8.out.rows (M, .cells #[.int .i64 (hK xs), .int .i64 (hG xs), .int .i64 (hC xs), .int .i64 0] 53) List.mem_cons_self).1
        obtain ⟨y0, y1, y2, y3⟩ := item_cells2 hrM
        have yM := fun j => Go.Joins.unfrozen_of_block hrM j
        obtain ⟨v5, a6, s6, E5⟩ : ∃ v a s, getV n a5 s5 (iwI (hG xs)) xs = v ∧ getA n a5 s5 (iwI (hG xs)) xs = a ∧ (!getOk n a5 s5 (iwI (hG xs)) xs) = s := ⟨_, _, _, rfl, rfl, rfl⟩
        replace E5 := Aside0.mk E5
        go_upto_region 8 with (first | (go_at_call 64; refine (idWidth_any (hG xs) _).mono ?_; rintro e wi ⟨rfl, hB⟩; (have Hi := Aside0.mk (H8.out.step hB)); clear hB) | (go_at_call 59; refine (get_any g A1 n c1 a5 s5 xs (iwI (hG xs)) wi Hi.out.cur Hi.out.bs Hi.out.ne).mono ?_; rintro e wj ⟨rfl, ho, hc⟩; rw [E5.out.2.1, E5.out.2.2] at hc; rw [E5.out.1]; (have Hj := Aside0.mk (Hi.out.go ho hc)); clear ho hc; clear hrM y0 y1 y2 y3 yM; (have hrM := (Hj.out.rows (M, .cells #[.int .i64 (hK xs), .int .i64 (hG xs), .int .i64 (hC xs), .int .i64 0] 53) List.mem_cons_self).1); (obtain ⟨y0, y1, y2, y3⟩ := item_cells2 hrM); (have yM := fun j => Go.Joins.unfrozen_of_block hrM j)))
        have hoM := (OnlyB.refl M wj).set 3 (.int .i64 v5)
        have hk := Hj.out.turn (o1 := .cells #[.int .i64 (hK xs), .int .i64 (hG xs), .int .i64 (hC xs), .int .i64 v5] 53) hoM (by have := HN.out; have := HNM.out; omega) (fun p hp => by obtain rfl := List.mem_singleton.1 hp; show N ≠ M; exact Nat.ne_of_lt HNM.out) (heap_setCell_same _ M 3 _ _ _ hrM)
        obtain ⟨wk, hwk⟩ : ∃ X, wj.setCell ⟨M, 3, none⟩ (.int .i64 v5) = X := ⟨_, rfl⟩
        rw [hwk] at hk ⊢
        have Hk := Aside0.mk hk
        clear hk hwk hoM hrM yM y0 y1 y2 y3
        cases s6 with
        | true =>
          have q70 : doneE true = 30 := rfl
          go_upto_region 9 with (go_at_call 60; refine (err_any g A1 n c1 a6 true wk Hk.out.cur).mono ?_; rintro e w6 ⟨rfl, rfl⟩; rw [q70])
          have hrN := (Hk.out.rows (N, (.cells #[.int .i64 0, .int .i64 0, .int .i64 0, .int .i64 0] 53)) (List.mem_cons_of_mem _ List.mem_cons_self)).1
          obtain ⟨x0, x1, x2, x3⟩ := item_cells2 hrN
          have yN := fun j => Go.Joins.unfrozen_of_block hrN j
          have HS := Aside0.mk (show ¬ (hFr xs + (iwI (hG xs)).toNat ≤ xs.length ∧ hNx xs ≤ 9223372036854775807) from fun q => by
            have hok : getOk n a5 s5 (iwI (hG xs)) xs = false := by have := E5.out.2.2; revert this; cases getOk n a5 s5 (iwI (hG xs)) xs <;> simp
            rcases F5.out with f | f
            · obtain ⟨rfl, rfl, _⟩ := f
              have hw := iw_in HGB.out
              rw [ok_in (by omega) (by omega) (by have := HL.out; omega) (by have := q.2; unfold hNx at this; omega)] at hok
              cases hok
            · have := q.1
              have := HL.out
              omega)
          have hD := hload (row4_set (.int .i64 0) (.int .i64 0) (.int .i64 0) (.int .i64 0) hrN)
          have HE := Aside0.mk (show hE xs = 72 ∧ hV xs = #[.int .i64 0, .int .i64 0, .int .i64 0, .int .i64 0] from ⟨by unfold hE; rw [if_pos ⟨HX4.out, HK.out⟩, if_neg HS.out], by unfold hV; rw [if_neg (by unfold hE; rw [if_pos ⟨HX4.out, HK.out⟩, if_neg HS.out]; decide)]⟩)
          have HBF := Aside0.mk ((only_set4 (W := wk) (g := N) (.int .i64 0) (.int .i64 0) (.int .i64 0) (.int .i64 0)).below Hk.out.bel (by have := HN.out; omega) (Nat.le_refl _))
          have HDL := Aside0.mk hD
          clear hD hrN
          go_wp2_with fail
          have hD := HDL.out
          refine bodyPost_ret (v := .tuple #[.agg #[.int .i64 0, .int .i64 0, .int .i64 0, .int .i64 0], .int .i64 72]) (by simp [results, Try.results25, asAddr, hD]) rfl ?_
          rw [HE.out.1, HE.out.2]
          exact ⟨rfl, HBF.out⟩
        | false =>
          have q0' : doneE false = 0 := rfl
          have HS := Aside0.mk (show (hFr xs + (iwI (hG xs)).toNat ≤ xs.length ∧ hNx xs ≤ 9223372036854775807) ∧ v5 = hNx xs by
            have hok : getOk n a5 s5 (iwI (hG xs)) xs = true := by have := E5.out.2.2; revert this; cases getOk n a5 s5 (iwI (hG xs)) xs <;> simp
            have hv := E5.out.1
            unfold getV at hv
            rw [if_pos hok] at hv
            obtain ⟨k1, k2, k3, k4, k5⟩ := of_decide_eq_true hok
            rcases F5.out with f | f
            · obtain ⟨_, rfl, _⟩ := f
              exact ⟨⟨by have := HL.out; omega, by unfold hNx; omega⟩, hv.symm⟩
            · rw [f.1] at k1
              cases k1)
          go_upto_region 10 with (go_at_call 60; refine (err_any g A1 n c1 a6 false wk Hk.out.cur).mono ?_; rintro e w6 ⟨rfl, rfl⟩; rw [q0'])
          have hrM := (Hk.out.rows (M, .cells #[.int .i64 (hK xs), .int .i64 (hG xs), .int .i64 (hC xs), .int .i64 v5] 53) List.mem_cons_self).1
          obtain ⟨y0, y1, y2, y3⟩ := item_cells2 hrM
          have yM := fun j => Go.Joins.unfrozen_of_block hrM j
          have hrN := (Hk.out.rows (N, (.cells #[.int .i64 0, .int .i64 0, .int .i64 0, .int .i64 0] 53)) (List.mem_cons_of_mem _ List.mem_cons_self)).1
          obtain ⟨x0, x1, x2, x3⟩ := item_cells2 hrN
          have yN := fun j => Go.Joins.unfrozen_of_block hrN j
          have hD := hload (row4_set (.int .i64 (hK xs)) (.int .i64 (hG xs)) (.int .i64 (hC xs)) (.int .i64 v5) hrN)
          have HE := Aside0.mk (show hE xs = 0 ∧ hV xs = #[.int .i64 (hK xs), .int .i64 (hG xs), .int .i64 (hC xs), .int .i64 v5] from ⟨by unfold hE; rw [if_pos ⟨HX4.out, HK.out⟩, if_pos HS.out.1], by unfold hV; rw [if_pos (by unfold hE; rw [if_pos ⟨HX4.out, HK.out⟩, if_pos HS.out.1]), HS.out.2]⟩)
          have HBF := Aside0.mk ((only_set4 (W := wk) (g := N) (.int .i64 (hK xs)) (.int .i64 (hG xs)) (.int .i64 (hC xs)) (.int .i64 v5)).below Hk.out.bel (by have := HN.out; omega) (Nat.le_refl _))
          have HDL := Aside0.mk hD
          clear hD hrN
          go_wp2_with fail
          have hD := HDL.out
          refine bodyPost_ret (v := .tuple #[.agg #[.int .i64 (hK xs), .int .i64 (hG xs), .int .i64 (hC xs), .int .i64 v5], .int .i64 0]) (by simp [results, Try.results25, asAddr, hD]) rfl ?_
          rw [HE.out.1, HE.out.2]
          exact ⟨rfl, HBF.out⟩
end Go.Proofs.Ytbjfklgmbeaaoaa
