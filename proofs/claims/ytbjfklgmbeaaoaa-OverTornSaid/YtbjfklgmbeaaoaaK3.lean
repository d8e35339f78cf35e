/- The walks of page's Body and Wrap. -/
import Derived.Test.YtbjfklgmbeaaoaaK2
set_option linter.unusedVariables false
set_option linter.unusedSimpArgs false
namespace Go.Proofs.Ytbjfklgmbeaaoaa
open Go.RowKit

theorem hE_in {xs : List UInt8} (h : hE xs = 0) : 4 ≤ xs.length ∧ knownB (hK xs) (hG xs) = true ∧ 1 ≤ hG xs ∧ hG xs ≤ 3 ∧ hFr xs + (iwI (hG xs)).toNat ≤ xs.length ∧ hNx xs ≤ 9223372036854775807 := by
  unfold hE at h
  split at h
  · rename_i q
    split at h
    · rename_i r
      have hk := q.2
      unfold knownB at hk
      rw [Bool.and_eq_true] at hk
      have := of_decide_eq_true hk.2
      exact ⟨q.1, q.2, this.1, this.2, r.1, r.2⟩
    · cases h
  · cases h
theorem hd_in {g : Int} (h : 1 ≤ g ∧ g ≤ 3) : hdI g = 8 ∨ hdI g = 16 := by
  rcases (show g = 1 ∨ g = 2 ∨ g = 3 by omega) with rfl | rfl | rfl
  · exact .inl rfl
  · exact .inr rfl
  · exact .inr rfl
def bodyL (xs : List UInt8) : List UInt8 := if hE xs = 0 ∧ xs.length = 256 then xs.drop (hdI (hG xs)).toNat else []
set_option maxHeartbeats 8000000 in
set_option maxRecDepth 100000 in
theorem body_any (A : Option Addr) (n c : Nat) (xs : List UInt8) (w : World) (hb : Bs w A n c xs) :
    Calls Try.prog 27 #[.slice A n c] w fun e w' => ∃ A1 c1, e = .returned (.slice A1 (bodyL xs).length c1) ∧ Ow w' w.heap.size A1 (bodyL xs).length c1 (bodyL xs) ∧ Below w.heap.size w w' := by
  have HX := Aside0.mk hb
  have hn := hb.len
  have hlim := hb.lim
  have HN := Aside0.mk hn
  clear hb
  have cH := headOf_any A n c xs w HX.out
  by_cases q : hE xs = 0
  case neg =>
    have g1 : (hE xs != 0) = true := bne_iff_ne.2 q
    have HB := Aside0.mk (show bodyL xs = [] from if_neg (fun r => q r.1))
    unfold hV at cH
    rw [if_neg q] at cH
    clear q hn
    go_enter Try.func27, Try.ntmps27
    go_wp2_with (go_at_call 25; refine cH.mono ?_; rintro e w1 ⟨rfl, hB⟩; (have H1 := Aside0.mk hB); clear hB)
    go_ret
    rw [HB.out]
    exact ⟨none, 0, rfl, Ow.nil _ _, H1.out.alloc H1.out.size _⟩
  case pos =>
    have g1 : (hE xs != 0) = false := bne_eq_false_iff_eq.2 q
    have HE := Aside0.mk (hE_in q)
    unfold hV at cH
    rw [if_pos q] at cH
    by_cases q2 : n = 256
    case neg =>
      have g2 : ((n : Int) != 256) = true := bne_iff_ne.2 (by omega)
      have HB := Aside0.mk (show bodyL xs = [] from if_neg (fun r => q2 (by rw [← hn]; exact r.2)))
      clear q q2 hn
      go_enter Try.func27, Try.ntmps27
      go_wp2_with (go_at_call 25; refine cH.mono ?_; rintro e w1 ⟨rfl, hB⟩; (have H1 := Aside0.mk hB); clear hB)
      go_ret
      rw [HB.out]
      exact ⟨none, 0, rfl, Ow.nil _ _, H1.out.alloc H1.out.size _⟩
    case pos =>
      subst q2
      have g2 : (((256 : Nat) : Int) != 256) = false := by decide
      have g3 : ((256 : Int) != 256) = false := by decide
      have HB := Aside0.mk (show bodyL xs = xs.drop (hdI (hG xs)).toNat from if_pos ⟨q, hn⟩)
      have hh := hd_in ⟨HE.out.2.2.1, HE.out.2.2.2.1⟩
      have s1 := fun W => sl8_l W A 256 c .i64 (hdI (hG xs)) (by omega) (by omega)
      have HH := Aside0.mk hh
      clear q hn hh
      go_enter Try.func27, Try.ntmps27
      go_upto_region 4 with (go_at_call 25; refine cH.mono ?_; rintro e w1 ⟨rfl, hB⟩; (have H1 := Aside0.mk hB); clear hB)
      have hB2 := (Below.refl _ w1).alloc (Nat.le_refl _) (.cells #[.int .i64 (hK xs), .int .i64 (hG xs), .int .i64 (hC xs), .int .i64 (hNx xs)] 53)
      have H2 := Aside0.mk (And.intro (heap_alloc_new w1 (.cells #[.int .i64 (hK xs), .int .i64 (hG xs), .int .i64 (hC xs), .int .i64 (hNx xs)] 53)) (And.intro (HX.out.below (below_then H1.out H1.out.size hB2)) (below_then H1.out H1.out.size hB2)))
      obtain ⟨w2, hw2⟩ : ∃ X, w1.alloc (.cells #[.int .i64 (hK xs), .int .i64 (hG xs), .int .i64 (hC xs), .int .i64 (hNx xs)] 53) = X := ⟨_, rfl⟩
      obtain ⟨M, hM⟩ : ∃ X, w1.heap.size = X := ⟨_, rfl⟩
      rw [hw2, hM] at H2
      rw [hw2, hM]
      obtain ⟨y0, y1, y2, y3⟩ := item_cells2 H2.out.1
      clear hw2 hM hB2
      go_wp2_with (first
        | (go_at_call 41; refine (head_any (hG xs) w2).mono ?_; rintro e w3 ⟨rfl, hB⟩; (have H3 := Aside0.mk (And.intro (H2.out.2.1.below hB) (below_then H2.out.2.2 H2.out.2.2.size hB))); clear hB)
        | (go_at_call 49; refine (clone8_any _ _ _ _ w3 (H3.out.1.drop (hdI (hG xs)).toNat (by have := HH.out; omega))).mono ?_; rintro e w4 ⟨A4, c4, rfl, hO, hB⟩; (have H4 := Aside0.mk (And.intro hO (below_then H3.out.2 H3.out.2.size hB))); clear hO hB))
      go_ret
      rw [HB.out, List.length_drop, HN.out]
      exact ⟨A4, c4, rfl, H4.out.1.mono H3.out.2.size, H4.out.2⟩
/-- A writer in memory, and rows that stand beside it. -/
structure HWr (w : World) (g g2 c : Nat) (R : List (Nat × Obj)) (s : WS) (W : World) : Prop where
  wr : Wr W w.heap.size g g2 c s
  bel : Below w.heap.size w W
  rows : ∀ p ∈ R, W.heap[p.1]? = some p.2 ∧ p.1 ≠ g ∧ p.1 ≠ g2
theorem HWr.step {w W W1 : World} {g g2 c : Nat} {R : List (Nat × Obj)} {s : WS} (h : HWr w g g2 c R s W) (hB : Below W.heap.size W W1) : HWr w g g2 c R s W1 :=
  ⟨h.wr.below hB, below_then h.bel h.bel.size hB, fun p hp => ⟨(hB.block _ (Array.getElem?_eq_some_iff.1 (h.rows p hp).1).1).trans (h.rows p hp).1, (h.rows p hp).2⟩⟩
theorem HWr.writer {w W W1 : World} {g g2 c : Nat} {R : List (Nat × Obj)} {s s1 : WS} (h : HWr w g g2 c R s W) (ho : Only2 g g2 W W1) (h1 : Wr W1 w.heap.size g g2 c s1) : HWr w g g2 c R s1 W1 :=
  ⟨h1, ho.below h.bel h.wr.lo h.wr.lo2 (Nat.le_refl _), fun p hp => ⟨(ho.block _ (Array.getElem?_eq_some_iff.1 (h.rows p hp).1).1 (h.rows p hp).2.1 (h.rows p hp).2.2).trans (h.rows p hp).1, (h.rows p hp).2⟩⟩
theorem HWr.bs {w W : World} {g g2 c0 : Nat} {R : List (Nat × Obj)} {s : WS} {A : Option Addr} {n c : Nat} {xs : List UInt8} (h : HWr w g g2 c0 R s W) (hb : Bs w A n c xs) : Bs W A n c xs := hb.map fun a v k => (h.bel.cell (World.block_lt_of_cell? w a k)).trans k
theorem HWr.apart {w W : World} {g g2 c0 : Nat} {R : List (Nat × Obj)} {s : WS} {A : Option Addr} {n c : Nat} {xs : List UInt8} (h : HWr w g g2 c0 R s W) (hb : Bs w A n c xs) : (∀ ad, A = some ad → 0 < n → ad.block ≠ g) ∧ (∀ ad, A = some ad → 0 < n → ad.block ≠ g2) :=
  ⟨fun ad e h0 => by have := hb.lt ad e h0; have := h.wr.lo; omega, fun ad e h0 => by have := hb.lt ad e h0; have := h.wr.lo2; omega⟩
theorem HWr.new {w w0 w1 : World} {g g2 m : Nat} {R : List (Nat × Obj)} (hB0 : Below w.heap.size w w0) (hg : w0.heap.size ≤ g) (hg2 : w0.heap.size ≤ g2) (hne : g ≠ g2) (hc : Cur w1 g 134 (some ⟨g2, 0, none⟩) m m 0 false) (hO : Ow w1 w0.heap.size (some ⟨g2, 0, none⟩) m m (List.replicate m 0)) (hB : Below w0.heap.size w0 w1) (hR : ∀ p ∈ R, w0.heap[p.1]? = some p.2) : HWr w g g2 m R ⟨0, false, List.replicate m 0⟩ w1 := by
  have hs := hB0.size
  refine ⟨⟨by simpa using hc, by simpa using hO.mono hs, hne, by omega, by omega⟩, below_then hB0 hs hB, fun p hp => ?_⟩
  have h1 := hR p hp
  have h2 := (Array.getElem?_eq_some_iff.1 h1).1
  exact ⟨(hB.block _ h2).trans h1, by omega, by omega⟩

def wr0 : WS := ⟨0, false, List.replicate 256 0⟩
def wrW3 (k g ct : Int) : WS := putS (putS (putS wr0 k 1) g 1) ct 2
def wrW4 (k g ct : Int) : WS := if 1 < g then skipS (wrW3 k g ct) 4 else wrW3 k g ct
def wrW (k g ct nx : Int) (ys : List UInt8) : WS := bytesS (putS (wrW4 k g ct) nx (iwI g)) ys
def wrE (k g ct nx : Int) (ys : List UInt8) : Int := if knownB k g = true then (if (wrW k g ct nx ys).sp = true then 73 else 0) else 70
def wrB (k g ct nx : Int) (ys : List UInt8) : List UInt8 := if wrE k g ct nx ys = 0 then (if 1 < g then sealB (wrW k g ct nx ys).xs 4 else (wrW k g ct nx ys).xs) else []

set_option maxHeartbeats 16000000 in
set_option maxRecDepth 100000 in
theorem wrap_any (k g ct nx : Int) (B : Option Addr) (m d : Nat) (ys : List UInt8) (w : World) (hb : Bs w B m d ys) (hc : -9223372036854775808 ≤ ct ∧ ct ≤ 9223372036854775807) (hx : -9223372036854775808 ≤ nx ∧ nx ≤ 9223372036854775807) :
    Calls Try.prog 35 #[.agg #[.int .i64 k, .int .i64 g, .int .i64 ct, .int .i64 nx], .slice B m d] w fun e w' => ∃ A1 c1, e = .returned (.tuple #[.slice A1 (wrB k g ct nx ys).length c1, .int .i64 (wrE k g ct nx ys)]) ∧ Ow w' w.heap.size A1 (wrB k g ct nx ys).length c1 (wrB k g ct nx ys) ∧ Below w.heap.size w w' := by
  have hB0 := (Below.refl _ w).alloc (Nat.le_refl _) (.cells #[.int .i64 k, .int .i64 g, .int .i64 ct, .int .i64 nx] 53)
  have H0 := Aside0.mk (And.intro (heap_alloc_new w (.cells #[.int .i64 k, .int .i64 g, .int .i64 ct, .int .i64 nx] 53)) (And.intro hB0 (show (w.alloc (.cells #[.int .i64 k, .int .i64 g, .int .i64 ct, .int .i64 nx] 53)).heap.size = w.heap.size + 1 by simp)))
  have HX := Aside0.mk hb
  have HCX := Aside0.mk (And.intro hc hx)
  clear hb hB0 hc hx
  go_enter Try.func35, Try.ntmps35
  go_upto_region 1 with fail
  obtain ⟨w0, hw0⟩ : ∃ X, w.alloc (.cells #[.int .i64 k, .int .i64 g, .int .i64 ct, .int .i64 nx] 53) = X := ⟨_, rfl⟩
  obtain ⟨N, hN⟩ : ∃ X, w.heap.size = X := ⟨_, rfl⟩
  rw [hw0, hN] at H0
  rw [hw0, hN]
  have HN := Aside0.mk hN
  have H0B := Aside0.mk (show Below w.heap.size w w0 by rw [hN]; exact H0.out.2.1)
  clear hw0 hN
  obtain ⟨y0, y1, y2, y3⟩ := item_cells2 H0.out.1
  have HS := Aside0.mk (show ∀ w' : World, w'.heap[N]? = some (.cells #[.int .i64 k, .int .i64 g, .int .i64 ct, .int .i64 nx] 53) → w'.cell? ⟨N, 0, none⟩ = some (.int .i64 k) ∧ w'.cell? ⟨N, 1, none⟩ = some (.int .i64 g) ∧ w'.cell? ⟨N, 2, none⟩ = some (.int .i64 ct) ∧ w'.cell? ⟨N, 3, none⟩ = some (.int .i64 nx) from fun w' h => item_cells2 h)
  cases hk : knownB k g with
  | false =>
    have HK := Aside0.mk hk
    have HE := Aside0.mk (show wrE k g ct nx ys = 70 from if_neg (by rw [hk]; decide))
    have HBB := Aside0.mk (show wrB k g ct nx ys = [] from if_neg (by rw [HE.out]; decide))
    clear hk
    go_wp2_with (go_at_call 61; refine (known_any k g ct nx w0).mono ?_; rintro e w1 ⟨rfl, hB⟩; rw [HK.out]; (have H1 := Aside0.mk (below_then H0B.out H0B.out.size hB)); clear hB)
    go_ret2
    rw [HE.out, HBB.out]
    exact ⟨none, 0, rfl, Ow.nil _ _, H1.out⟩
  | true =>
    have HK := Aside0.mk hk
    have hgb : (k = 76 ∨ k = 66 ∨ k = 79 ∨ k = 70) ∧ 1 ≤ g ∧ g ≤ 3 := by
      unfold knownB at hk
      rw [Bool.and_eq_true] at hk
      have h1 := hk.1
      rw [List.contains_iff_mem] at h1
      simp only [List.mem_cons, List.not_mem_nil, or_false] at h1
      exact ⟨h1, of_decide_eq_true hk.2⟩
    have HGB := Aside0.mk hgb
    clear hk hgb
    go_upto_region 7 with (first
      | (go_at_call 61; refine (known_any k g ct nx w0).mono ?_; rintro e w1 ⟨rfl, hB⟩; rw [HK.out]; (have H1 := Aside0.mk (And.intro ((hB.block _ (Array.getElem?_eq_some_iff.1 H0.out.1).1).trans H0.out.1) (below_then H0B.out H0B.out.size hB))); clear hB)
      | (go_at_call 72; refine (newWriter_any 256 w1).mono ?_; rintro e w2 ⟨gw, g2, rfl, hg, hg2, hne, hgl, hc, hO, hB⟩; (have H2 := Aside0.mk (HWr.new (m := 256) (R := [(N, (.cells #[.int .i64 k, .int .i64 g, .int .i64 ct, .int .i64 nx] 53))]) H1.out.2 hg hg2 hne hc hO hB (fun p hp => by obtain rfl := List.mem_singleton.1 hp; exact H1.out.1))); clear hg hg2 hne hgl hc hO hB; clear y0 y1 y2 y3; (obtain ⟨y0, y1, y2, y3⟩ := HS.out _ (H2.out.rows (N, (.cells #[.int .i64 k, .int .i64 g, .int .i64 ct, .int .i64 nx] 53)) List.mem_cons_self).1))
      | (go_at_call 87; refine (put_any w.heap.size gw g2 256 (putS (putS wr0 k 1) g 1) ct 2 w4 HCX.out.1 H4.out.wr).mono ?_; rintro e w5 ⟨rfl, hW, hO, _⟩; (have H5 := Aside0.mk (show HWr w gw g2 256 [(N, (.cells #[.int .i64 k, .int .i64 g, .int .i64 ct, .int .i64 nx] 53))] (wrW3 k g ct) w5 from H4.out.writer hO hW)); clear hW hO; clear y0 y1 y2 y3; (obtain ⟨y0, y1, y2, y3⟩ := HS.out _ (H5.out.rows (N, (.cells #[.int .i64 k, .int .i64 g, .int .i64 ct, .int .i64 nx] 53)) List.mem_cons_self).1))
      | (go_at_call 87; refine (put_any w.heap.size gw g2 256 (putS wr0 k 1) g 1 w3 (by have := HGB.out.2; omega) H3.out.wr).mono ?_; rintro e w4 ⟨rfl, hW, hO, _⟩; (have H4 := Aside0.mk (H3.out.writer hO hW)); clear hW hO; clear y0 y1 y2 y3; (obtain ⟨y0, y1, y2, y3⟩ := HS.out _ (H4.out.rows (N, (.cells #[.int .i64 k, .int .i64 g, .int .i64 ct, .int .i64 nx] 53)) List.mem_cons_self).1))
      | (go_at_call 87; refine (put_any w.heap.size gw g2 256 wr0 k 1 w2 (by have := HGB.out.1; omega) H2.out.wr).mono ?_; rintro e w3 ⟨rfl, hW, hO, _⟩; (have H3 := Aside0.mk (H2.out.writer hO hW)); clear hW hO; clear y0 y1 y2 y3; (obtain ⟨y0, y1, y2, y3⟩ := HS.out _ (H3.out.rows (N, (.cells #[.int .i64 k, .int .i64 g, .int .i64 ct, .int .i64 nx] 53)) List.mem_cons_self).1))
      | fail)
    by_cases q1 : 1 < g
    case neg =>
      have d1 : decide (1 < g) = false := decide_eq_false q1
      have H6 := Aside0.mk (show HWr w gw g2 256 [(N, (.cells #[.int .i64 k, .int .i64 g, .int .i64 ct, .int .i64 nx] 53))] (wrW4 k g ct) w5 by unfold wrW4; rw [if_neg q1]; exact H5.out)
      clear q1
      go_upto_region 9 with (go_at_call 62; refine (summed_any g _).mono ?_; rintro e w8 ⟨rfl, rfl⟩; rw [d1])
      have h9 := H6.out.step (below_drew (Below.refl _ w5))
      obtain ⟨u0, hu0⟩ : ∃ X, w5.drew = X := ⟨_, rfl⟩
      rw [hu0] at h9
      have T0 := Aside0.mk h9
      clear h9 y0 y1 y2 y3
      refine wp_region_M (fun j => decide (j < 7)) (fun w' => w'.cell? ⟨N, 0, none⟩ = some (.int .i64 k) ∧ w'.cell? ⟨N, 1, none⟩ = some (.int .i64 g) ∧ w'.cell? ⟨N, 2, none⟩ = some (.int .i64 ct) ∧ w'.cell? ⟨N, 3, none⟩ = some (.int .i64 nx)) (by kernel_rfl) ?_
      rw [hu0]
      clear hu0
      refine wpAnyM_take (i := 0) (v := ?_) (by simp only [List.getElem?_toArray, List.getElem?_cons_succ, List.getElem?_cons_zero]; rfl) (by kernel_rfl) (by kernel_rfl) (by kernel_rfl) (by kernel_rfl) (by exact fun _ _ _ h => h) (Or.inl ⟨by rfl, ?_⟩) (HS.out _ (T0.out.rows (N, (.cells #[.int .i64 k, .int .i64 g, .int .i64 ct, .int .i64 nx] 53)) List.mem_cons_self).1) ?_
      rotate_left
      · (intro w' hSw; (try dsimp only at hSw); go_simp; try with_reducible rfl)
      try simp only [Act.put, List.setIfInBounds_toArray, List.set_cons_zero, List.set_cons_succ]
      refine wpAnyM_take (i := 1) (v := ?_) (by simp only [List.getElem?_toArray, List.getElem?_cons_succ, List.getElem?_cons_zero]; rfl) (by kernel_rfl) (by kernel_rfl) (by kernel_rfl) (by kernel_rfl) (by exact fun _ _ _ h => h) (Or.inl ⟨by rfl, ?_⟩) (HS.out _ (T0.out.rows (N, (.cells #[.int .i64 k, .int .i64 g, .int .i64 ct, .int .i64 nx] 53)) List.mem_cons_self).1) ?_
      rotate_left
      · (intro w' hSw; (try dsimp only at hSw); go_simp; try with_reducible rfl)
      try simp only [Act.put, List.setIfInBounds_toArray, List.set_cons_zero, List.set_cons_succ]
      refine wpAnyM_take (i := 2) (v := ?_) (by simp only [List.getElem?_toArray, List.getElem?_cons_succ, List.getElem?_cons_zero]; rfl) (by kernel_rfl) (by kernel_rfl) (by kernel_rfl) (by kernel_rfl) (by exact fun _ _ _ h => h) (Or.inl ⟨by rfl, ?_⟩) (HS.out _ (T0.out.rows (N, (.cells #[.int .i64 k, .int .i64 g, .int .i64 ct, .int .i64 nx] 53)) List.mem_cons_self).1) ?_
      rotate_left
      · (intro w' hSw; (try dsimp only at hSw); go_simp; try with_reducible rfl)
      try simp only [Act.put, List.setIfInBounds_toArray, List.set_cons_zero, List.set_cons_succ]
      refine wpAnyM_take (i := 3) (v := ?_) (by simp only [List.getElem?_toArray, List.getElem?_cons_succ, List.getElem?_cons_zero]; rfl) (by kernel_rfl) (by kernel_rfl) (by kernel_rfl) (by kernel_rfl) (by exact fun _ _ _ h => h) (Or.inl ⟨by rfl, ?_⟩) (HS.out _ (T0.out.rows (N, (.cells #[.int .i64 k, .int .i64 g, .int .i64 ct, .int .i64 nx] 53)) List.mem_cons_self).1) ?_
      rotate_left
      · (intro w' hSw; (try dsimp only at hSw); go_simp; try with_reducible rfl)
      try simp only [Act.put, List.setIfInBounds_toArray, List.set_cons_zero, List.set_cons_succ]
      refine wpAnyM_take (i := 4) (v := ?_) (by simp only [List.getElem?_toArray, List.getElem?_cons_succ, List.getElem?_cons_zero]; rfl) (by kernel_rfl) (by kernel_rfl) (by kernel_rfl) (by kernel_rfl) (by exact fun _ _ _ h => h) (Or.inl ⟨by rfl, ?_⟩) (HS.out _ (T0.out.rows (N, (.cells #[.int .i64 k, .int .i64 g, .int .i64 ct, .int .i64 nx] 53)) List.mem_cons_self).1) ?_
      rotate_left
      · (intro w' hSw; (try dsimp only at hSw); go_simp; try with_reducible rfl)
      try simp only [Act.put, List.setIfInBounds_toArray, List.set_cons_zero, List.set_cons_succ]
      refine wpAnyM_one (i := 5) (by kernel_rfl) (by simp only [List.getElem?_toArray, List.getElem?_cons_succ, List.getElem?_cons_zero]; rfl) ?_
      go_wp2_with (go_at_call 64; refine (idWidth_any g u0).mono ?_; rintro e u1 ⟨rfl, hB⟩; (have T1 := Aside0.mk (T0.out.step hB)); clear hB)
      refine ⟨HS.out _ (T1.out.rows (N, (.cells #[.int .i64 k, .int .i64 g, .int .i64 ct, .int .i64 nx] 53)) List.mem_cons_self).1, ?_⟩
      try simp only [Act.put, List.setIfInBounds_toArray, List.set_cons_zero, List.set_cons_succ]
      refine wpAnyM_one (i := 6) (by kernel_rfl) (by simp only [List.getElem?_toArray, List.getElem?_cons_succ, List.getElem?_cons_zero]; rfl) ?_
      go_wp2_with (go_at_call 87; refine (put_any w.heap.size gw g2 256 (wrW4 k g ct) nx (iwI g) u1 HCX.out.2 T1.out.wr).mono ?_; rintro e u2 ⟨rfl, hW, hO, _⟩; (have T2 := Aside0.mk (T1.out.writer hO hW)); clear hW hO)
      refine ⟨HS.out _ (T2.out.rows (N, (.cells #[.int .i64 k, .int .i64 g, .int .i64 ct, .int .i64 nx] 53)) List.mem_cons_self).1, ?_⟩
      try simp only [Act.put, List.setIfInBounds_toArray, List.set_cons_zero, List.set_cons_succ]
      refine wpAnyM_done (by kernel_rfl) ?_ _
      have hap := T2.out.apart HX.out
      go_upto_region 11 with (go_at_call 88; refine (wbytes_any w.heap.size gw g2 256 (putS (wrW4 k g ct) nx (iwI g)) B m d ys u2 T2.out.wr (T2.out.bs HX.out) hap.1 hap.2).mono ?_; rintro e u3 ⟨rfl, hW, hO, _⟩; (have T3 := Aside0.mk (show HWr w gw g2 256 [(N, (.cells #[.int .i64 k, .int .i64 g, .int .i64 ct, .int .i64 nx] 53))] (wrW k g ct nx ys) u3 from T2.out.writer hO hW)); clear hW hO)
      clear hap
      obtain ⟨ws, hws⟩ : ∃ x, wrW k g ct nx ys = x := ⟨_, rfl⟩
      rw [hws] at T3
      have HWS := Aside0.mk hws
      clear hws
      obtain ⟨sa, ssp, sxs⟩ := ws
      cases ssp with
      | true =>
        have HE := Aside0.mk (show wrE k g ct nx ys = 73 by unfold wrE; rw [if_pos HK.out, HWS.out]; rfl)
        have HBB := Aside0.mk (show wrB k g ct nx ys = [] from if_neg (by rw [HE.out]; decide))
        have q73 : (doneE true != 0) = true := rfl
        go_wp2_with (go_at_call 75; refine (done_any gw _ _ _ _ true sxs u3 T3.out.wr.cur T3.out.wr.own.bs).mono ?_; rintro e u4 ⟨A4, c4, rfl, hO, hB⟩; (have T4 := Aside0.mk (below_then T3.out.bel T3.out.bel.size hB)); clear hO hB)
        go_ret2
        rw [HE.out, HBB.out]
        exact ⟨none, 0, rfl, Ow.nil _ _, T4.out⟩
      | false =>
        have HE := Aside0.mk (show wrE k g ct nx ys = 0 by unfold wrE; rw [if_pos HK.out, HWS.out]; rfl)
        have HBB := Aside0.mk (show wrB k g ct nx ys = (if 1 < g then sealB sxs 4 else sxs) by unfold wrB; rw [if_pos HE.out, HWS.out])
        have q0 : (doneE false != 0) = false := rfl
        have q00 : doneB false sxs = sxs := rfl
        go_upto_region 14 with (go_at_call 75; refine (done_any gw _ _ _ _ false sxs u3 T3.out.wr.cur T3.out.wr.own.bs).mono ?_; rintro e u4 ⟨A4, c4, rfl, hO, hB⟩; rw [q00] at hO; rw [q00]; (have T4 := Aside0.mk (And.intro hO (T3.out.step hB))); clear hO hB)
        obtain ⟨y0, y1, y2, y3⟩ := HS.out _ (T4.out.2.rows (N, (.cells #[.int .i64 k, .int .i64 g, .int .i64 ct, .int .i64 nx] 53)) List.mem_cons_self).1
        go_wp2_with (go_at_call 62; refine (summed_any g _).mono ?_; rintro e w8 ⟨rfl, rfl⟩; rw [d1])
        go_ret2
        rw [HE.out, HBB.out, if_neg (of_decide_eq_false d1)]
        exact ⟨A4, c4, rfl, T4.out.1.mono T3.out.bel.size, T4.out.2.bel⟩
    case pos =>
      have d1 : decide (1 < g) = true := decide_eq_true q1
      have HQ1 := Aside0.mk q1
      clear q1
      go_upto_region 9 with (first | (go_at_call 62; refine (summed_any g _).mono ?_; rintro e w8 ⟨rfl, rfl⟩; rw [d1]) | (go_at_call 63; refine (skip_wr w.heap.size gw g2 256 (wrW3 k g ct) 4 w5 H5.out.wr).mono ?_; rintro e w6 ⟨rfl, hW, hO⟩; (have H6 := Aside0.mk (show HWr w gw g2 256 [(N, (.cells #[.int .i64 k, .int .i64 g, .int .i64 ct, .int .i64 nx] 53))] (wrW4 k g ct) w6 by unfold wrW4; rw [if_pos HQ1.out]; exact H5.out.writer hO hW)); clear hW hO))
      have h9 := H6.out.step (below_drew (Below.refl _ w6))
      obtain ⟨u0, hu0⟩ : ∃ X, w6.drew = X := ⟨_, rfl⟩
      rw [hu0] at h9
      have T0 := Aside0.mk h9
      clear h9 y0 y1 y2 y3
      refine wp_region_M (fun j => decide (j < 7)) (fun w' => w'.cell? ⟨N, 0, none⟩ = some (.int .i64 k) ∧ w'.cell? ⟨N, 1, none⟩ = some (.int .i64 g) ∧ w'.cell? ⟨N, 2, none⟩ = some (.int .i64 ct) ∧ w'.cell? ⟨N, 3, none⟩ = some (.int .i64 nx)) (by kernel_rfl) ?_
      rw [hu0]
      clear hu0
      refine wpAnyM_take (i := 0) (v := ?_) (by simp only [List.getElem?_toArray, List.getElem?_cons_succ, List.getElem?_cons_zero]; rfl) (by kernel_rfl) (by kernel_rfl) (by kernel_rfl) (by kernel_rfl) (by exact fun _ _ _ h => h) (Or.inl ⟨by rfl, ?_⟩) (HS.out _ (T0.out.rows (N, (.cells #[.int .i64 k, .int .i64 g, .int .i64 ct, .int .i64 nx] 53)) List.mem_cons_self).1) ?_
      rotate_left
      · (intro w' hSw; (try dsimp only at hSw); go_simp; try with_reducible rfl)
      try simp only [Act.put, List.setIfInBounds_toArray, List.set_cons_zero, List.set_cons_succ]
      refine wpAnyM_take (i := 1) (v := ?_) (by simp only [List.getElem?_toArray, List.getElem?_cons_succ, List.getElem?_cons_zero]; rfl) (by kernel_rfl) (by kernel_rfl) (by kernel_rfl) (by kernel_rfl) (by exact fun _ _ _ h => h) (Or.inl ⟨by rfl, ?_⟩) (HS.out _ (T0.out.rows (N, (.cells #[.int .i64 k, .int .i64 g, .int .i64 ct, .int .i64 nx] 53)) List.mem_cons_self).1) ?_
      rotate_left
      · (intro w' hSw; (try dsimp only at hSw); go_simp; try with_reducible rfl)
      try simp only [Act.put, List.setIfInBounds_toArray, List.set_cons_zero, List.set_cons_succ]
      refine wpAnyM_take (i := 2) (v := ?_) (by simp only [List.getElem?_toArray, List.getElem?_cons_succ, List.getElem?_cons_zero]; rfl) (by kernel_rfl) (by kernel_rfl) (by kernel_rfl) (by kernel_rfl) (by exact fun _ _ _ h => h) (Or.inl ⟨by rfl, ?_⟩) (HS.out _ (T0.out.rows (N, (.cells #[.int .i64 k, .int .i64 g, .int .i64 ct, .int .i64 nx] 53)) List.mem_cons_self).1) ?_
      rotate_left
      · (intro w' hSw; (try dsimp only at hSw); go_simp; try with_reducible rfl)
      try simp only [Act.put, List.setIfInBounds_toArray, List.set_cons_zero, List.set_cons_succ]
      refine wpAnyM_take (i := 3) (v := ?_) (by simp only [List.getElem?_toArray, List.getElem?_cons_succ, List.getElem?_cons_zero]; rfl) (by kernel_rfl) (by kernel_rfl) (by kernel_rfl) (by kernel_rfl) (by exact fun _ _ _ h => h) (Or.inl ⟨by rfl, ?_⟩) (HS.out _ (T0.out.rows (N, (.cells #[.int .i64 k, .int .i64 g, .int .i64 ct, .int .i64 nx] 53)) List.mem_cons_self).1) ?_
      rotate_left
      · (intro w' hSw; (try dsimp only at hSw); go_simp; try with_reducible rfl)
      try simp only [Act.put, List.setIfInBounds_toArray, List.set_cons_zero, List.set_cons_succ]
      refine wpAnyM_take (i := 4) (v := ?_) (by simp only [List.getElem?_toArray, List.getElem?_cons_succ, List.getElem?_cons_zero]; rfl) (by kernel_rfl) (by kernel_rfl) (by kernel_rfl) (by kernel_rfl) (by exact fun _ _ _ h => h) (Or.inl ⟨by rfl, ?_⟩) (HS.out _ (T0.out.rows (N, (.cells #[.int .i64 k, .int .i64 g, .int .i64 ct, .int .i64 nx] 53)) List.mem_cons_self).1) ?_
      rotate_left
      · (intro w' hSw; (try dsimp only at hSw); go_simp; try with_reducible rfl)
      try simp only [Act.put, List.setIfInBounds_toArray, List.set_cons_zero, List.set_cons_succ]
      refine wpAnyM_one (i := 5) (by kernel_rfl) (by simp only [List.getElem?_toArray, List.getElem?_cons_succ, List.getElem?_cons_zero]; rfl) ?_
      go_wp2_with (go_at_call 64; refine (idWidth_any g u0).mono ?_; rintro e u1 ⟨rfl, hB⟩; (have T1 := Aside0.mk (T0.out.step hB)); clear hB)
      refine ⟨HS.out _ (T1.out.rows (N, (.cells #[.int .i64 k, .int .i64 g, .int .i64 ct, .int .i64 nx] 53)) List.mem_cons_self).1, ?_⟩
      try simp only [Act.put, List.setIfInBounds_toArray, List.set_cons_zero, List.set_cons_succ]
      refine wpAnyM_one (i := 6) (by kernel_rfl) (by simp only [List.getElem?_toArray, List.getElem?_cons_succ, List.getElem?_cons_zero]; rfl) ?_
      go_wp2_with (go_at_call 87; refine (put_any w.heap.size gw g2 256 (wrW4 k g ct) nx (iwI g) u1 HCX.out.2 T1.out.wr).mono ?_; rintro e u2 ⟨rfl, hW, hO, _⟩; (have T2 := Aside0.mk (T1.out.writer hO hW)); clear hW hO)
      refine ⟨HS.out _ (T2.out.rows (N, (.cells #[.int .i64 k, .int .i64 g, .int .i64 ct, .int .i64 nx] 53)) List.mem_cons_self).1, ?_⟩
      try simp only [Act.put, List.setIfInBounds_toArray, List.set_cons_zero, List.set_cons_succ]
      refine wpAnyM_done (by kernel_rfl) ?_ _
      have hap := T2.out.apart HX.out
      go_upto_region 11 with (go_at_call 88; refine (wbytes_any w.heap.size gw g2 256 (putS (wrW4 k g ct) nx (iwI g)) B m d ys u2 T2.out.wr (T2.out.bs HX.out) hap.1 hap.2).mono ?_; rintro e u3 ⟨rfl, hW, hO, _⟩; (have T3 := Aside0.mk (show HWr w gw g2 256 [(N, (.cells #[.int .i64 k, .int .i64 g, .int .i64 ct, .int .i64 nx] 53))] (wrW k g ct nx ys) u3 from T2.out.writer hO hW)); clear hW hO)
      clear hap
      obtain ⟨ws, hws⟩ : ∃ x, wrW k g ct nx ys = x := ⟨_, rfl⟩
      rw [hws] at T3
      have HWS := Aside0.mk hws
      clear hws
      obtain ⟨sa, ssp, sxs⟩ := ws
      cases ssp with
      | true =>
        have HE := Aside0.mk (show wrE k g ct nx ys = 73 by unfold wrE; rw [if_pos HK.out, HWS.out]; rfl)
        have HBB := Aside0.mk (show wrB k g ct nx ys = [] from if_neg (by rw [HE.out]; decide))
        have q73 : (doneE true != 0) = true := rfl
        go_wp2_with (go_at_call 75; refine (done_any gw _ _ _ _ true sxs u3 T3.out.wr.cur T3.out.wr.own.bs).mono ?_; rintro e u4 ⟨A4, c4, rfl, hO, hB⟩; (have T4 := Aside0.mk (below_then T3.out.bel T3.out.bel.size hB)); clear hO hB)
        go_ret2
        rw [HE.out, HBB.out]
        exact ⟨none, 0, rfl, Ow.nil _ _, T4.out⟩
      | false =>
        have HE := Aside0.mk (show wrE k g ct nx ys = 0 by unfold wrE; rw [if_pos HK.out, HWS.out]; rfl)
        have HBB := Aside0.mk (show wrB k g ct nx ys = (if 1 < g then sealB sxs 4 else sxs) by unfold wrB; rw [if_pos HE.out, HWS.out])
        have q0 : (doneE false != 0) = false := rfl
        have q00 : doneB false sxs = sxs := rfl
        go_upto_region 14 with (go_at_call 75; refine (done_any gw _ _ _ _ false sxs u3 T3.out.wr.cur T3.out.wr.own.bs).mono ?_; rintro e u4 ⟨A4, c4, rfl, hO, hB⟩; rw [q00] at hO; rw [q00]; (have T4 := Aside0.mk (And.intro hO (T3.out.step hB))); clear hO hB)
        obtain ⟨y0, y1, y2, y3⟩ := HS.out _ (T4.out.2.rows (N, (.cells #[.int .i64 k, .int .i64 g, .int .i64 ct, .int .i64 nx] 53)) List.mem_cons_self).1
        go_wp2_with (first | (go_at_call 62; refine (summed_any g _).mono ?_; rintro e w8 ⟨rfl, rfl⟩; rw [d1]) | (go_at_call 89; refine (seal_any A4 _ c4 sxs 4 u4 T4.out.1.bs).mono ?_; rintro e u5 ⟨A5, c5, rfl, hO, hB⟩; (have T5 := Aside0.mk (And.intro hO (below_then T4.out.2.bel T4.out.2.bel.size hB))); clear hO hB))
        go_ret2
        have hl := T5.out.1.len
        rw [HE.out, HBB.out, if_pos (of_decide_eq_true d1), hl]
        exact ⟨A5, c5, rfl, T5.out.1.mono T4.out.2.bel.size, T5.out.2⟩
end Go.Proofs.Ytbjfklgmbeaaoaa
