/- The document's disk (regaugeref01): New, Load, over, Image, is. -/
import Derived.Test.YthhalmjapiempaaNF
import Derived.Test.YthhalmjapiempaaN9
import Derived.Test.YthhalmjapiempaaNA
import Derived.Test.YthhalmjapiempaaZH
set_option linter.unusedVariables false
set_option linter.unusedSimpArgs false
namespace Go.Proofs.Ythhalmjapiempaa
open Go.RowKit

def rv (d : DV) (A : Option Addr) (n c : Nat) (B : Option Addr) (m e : Nat) : Array Value := #[.int .i64 d.limit, .slice A n c, .slice B m e, .int .i64 d.ops, .int .i64 d.fuse, .bool d.down]
/-- What such a disk's slices hold. -/
structure RM (W : World) (A : Option Addr) (n c : Nat) (B : Option Addr) (m e : Nat) (hs : List (Int × Option Addr × Nat × Nat)) (d : DV) : Prop where
  bl : Bs W A n c d.l
  rr : Rc W 2 B m e (wv hs)
  hl : hs.length = m
  len : hs.length = d.row.length
  each : ∀ (j : Nat) (p : Int × Option Addr × Nat × Nat), hs[j]? = some p → ∃ q : Nat × List UInt8, d.row[j]? = some q ∧ p.1 = (q.1 : Int) ∧ p.2.2.1 = 64 ∧ Bs W p.2.1 p.2.2.1 p.2.2.2 q.2
theorem RM.below {W W1 : World} {A : Option Addr} {n c : Nat} {B : Option Addr} {m e : Nat} {hs : List (Int × Option Addr × Nat × Nat)} {d : DV} (h : RM W A n c B m e hs d) (hB : Below W.heap.size W W1) : RM W1 A n c B m e hs d :=
  ⟨h.bl.below hB, h.rr.below hB, h.hl, h.len, fun j p hj => by obtain ⟨q, a, b, c, f⟩ := h.each j p hj; exact ⟨q, a, b, c, f.below hB⟩⟩
theorem dload {W : World} {g : Nat} {a b c d e f : Value} (h : W.heap[g]? = some (.cells #[a, b, c, d, e, f] 47)) : (loadVar 47 ⟨g, 0, none⟩).run Try.prog W = .ok (.agg #[a, b, c, d, e, f]) W :=
  run_loadVar_row W g 47 47 _ (0, 0) _ h Try.underlying47 rfl (by kernel_rfl)
set_option maxHeartbeats 4000000 in
set_option maxRecDepth 100000 in
theorem rnew_any (limit : Int) (w : World) :
    Calls Try.prog 51 #[.int .i64 limit] w fun e w' => e = .returned (.agg #[.int .i64 (limI limit), .slice none 0 0, .slice none 0 0, .int .i64 0, .int .i64 (-1), .bool false]) ∧ Below w.heap.size w w' := by
  obtain ⟨L, hL⟩ : ∃ x, limI limit = x := ⟨_, rfl⟩
  have HB := Aside0.mk (fun o : Obj => (Below.refl w.heap.size w).alloc (Nat.le_refl _) o)
  have HL := Aside0.mk hL
  rw [hL]
  unfold limI at hL
  by_cases q1 : limit < 0
  · have g1 : decide (limit < 0) = true := decide_eq_true q1
    rw [if_pos q1] at hL
    subst hL
    clear q1
    go_enter Try.func51, Try.ntmps51
    go_wp2_with fail
    have hD := dload (heap_alloc_new w (.cells #[.int .i64 0, .slice none 0 0, .slice none 0 0, .int .i64 0, .int .i64 (-1), .bool false] 47))
    refine bodyPost_ret (v := .agg #[.int .i64 0, .slice none 0 0, .slice none 0 0, .int .i64 0, .int .i64 (-1), .bool false]) (by simp [results, Try.results51, asAddr, hD]) rfl ?_
    exact ⟨rfl, HB.out _⟩
  · have g1 : decide (limit < 0) = false := decide_eq_false q1
    rw [if_neg q1] at hL
    by_cases q2 : 65536 < limit
    · have g2 : decide (65536 < limit) = true := decide_eq_true q2
      rw [if_pos q2] at hL
      subst hL
      clear q1 q2
      go_enter Try.func51, Try.ntmps51
      go_wp2_with fail
      have hD := dload (heap_alloc_new w (.cells #[.int .i64 65536, .slice none 0 0, .slice none 0 0, .int .i64 0, .int .i64 (-1), .bool false] 47))
      refine bodyPost_ret (v := .agg #[.int .i64 65536, .slice none 0 0, .slice none 0 0, .int .i64 0, .int .i64 (-1), .bool false]) (by simp [results, Try.results51, asAddr, hD]) rfl ?_
      exact ⟨rfl, HB.out _⟩
    · have g2 : decide (65536 < limit) = false := decide_eq_false q2
      rw [if_neg q2] at hL
      subst hL
      clear q1 q2
      go_enter Try.func51, Try.ntmps51
      go_wp2_with fail
      have hD := dload (heap_alloc_new w (.cells #[.int .i64 limit, .slice none 0 0, .slice none 0 0, .int .i64 0, .int .i64 (-1), .bool false] 47))
      refine bodyPost_ret (v := .agg #[.int .i64 limit, .slice none 0 0, .slice none 0 0, .int .i64 0, .int .i64 (-1), .bool false]) (by simp [results, Try.results51, asAddr, hD]) rfl ?_
      exact ⟨rfl, HB.out _⟩
set_option maxHeartbeats 4000000 in
set_option maxRecDepth 100000 in
theorem rover_any (A : Option Addr) (n c : Nat) (xs : List UInt8) (a : Nat) (B : Option Addr) (e : Nat) (ys : List UInt8) (w : World) (hx : Bs w A n c xs) (hy : Bs w B 64 e ys) (ha : 64 * a + 64 ≤ n) (hn : n ≤ 100000000) :
    Calls Try.prog 52 #[.slice A n c, .agg #[.int .i64 (a : Int), .slice B 64 e]] w fun e w' => ∃ A1 c1, e = .returned (.slice A1 n c1) ∧ Ow w' w.heap.size A1 n c1 (putL xs ys (64 * a)) ∧ Below w.heap.size w w' := by
  have hcap := hx.le
  have hccap := hx.cap
  obtain ⟨bx, hbx⟩ : ∃ b : Obj, Obj.cells #[.int .i64 (a : Int), .slice B 64 e] 104 = b := ⟨_, rfl⟩
  have hB0 := (Below.refl _ w).alloc (Nat.le_refl _) bx
  have H0 := Aside0.mk (And.intro (hx.below hB0) (And.intro (hy.below hB0) (And.intro (heap_alloc_new w bx) hB0)))
  have HLN := Aside0.mk (And.intro hx.len hy.len)
  replace hbx := Aside0.mk hbx
  clear hx hy hB0
  have s1 := fun W => sl8_h W A n c .i64 (64 * (a : Int)) (by omega) (by omega)
  have s2 := fun W => sl8_l W A n c .i64 (64 * (a : Int) + 64) (by omega) (by omega)
  simp only [show (64 * (a : Int)).toNat = 64 * a by omega, show (64 * (a : Int) + 64).toNat = 64 * a + 64 by omega] at s1 s2
  have w1' : IntKind.i64.wrap (64 * (a : Int)) = 64 * (a : Int) := IntWalk.i64_in _ (by omega)
  have w2' : IntKind.i64.wrap (64 * (a : Int) + 64) = 64 * (a : Int) + 64 := IntWalk.i64_in _ (by omega)
  go_enter Try.func52, Try.ntmps52
  go_upto_region 1 with fail
  rw [hbx.out]
  obtain ⟨w0, hw0⟩ : ∃ X, w.alloc bx = X := ⟨_, rfl⟩
  obtain ⟨N, hN⟩ : ∃ X, w.heap.size = X := ⟨_, rfl⟩
  rw [hw0, hN] at H0
  rw [hw0, hN]
  have hY := Aside0.mk (show ∀ X : World, X.heap[N]? = some bx → X.cell? ⟨N, 0, none⟩ = some (.int .i64 (a : Int)) ∧ X.cell? ⟨N, 1, none⟩ = some (.slice B 64 e) from fun X hX => by
    rw [← hbx.out] at hX
    exact ⟨by rw [cell_of_row _ _ _ _ _ _ hX]; rfl, by rw [cell_of_row _ _ _ _ _ _ hX]; rfl⟩)
  have hN' := Aside0.mk hN
  clear hw0 hN hbx
  obtain ⟨y0, y1⟩ := hY.out _ H0.out.2.2.1
  have HL := Aside0.mk (Ow.lit0 w0 w0.heap.size w0.heap.size rfl (Nat.le_refl _))
  have y0' := cell_below ((Below.refl _ w0).alloc (Nat.le_refl _) (.cells #[] 5)) y0
  go_wp2_with (first
    | (at_builtin; refine wpl_a8 (w0 := w0) w0.heap.size rfl (.tmp 6) (.tmp 11) rfl _ 0 0 [] A (64 * a) c (xs.take (64 * a)) (64 * a) _ rfl rfl HL.out ((H0.out.1.take (64 * a) (by omega)).alloc _) ((Below.refl _ _).alloc (Nat.le_refl _) _) (by simp) (by omega) (by omega) rfl ?_; clear HL; intro A2 c2 w1 hO1 hB1; clear y0 y1; (obtain ⟨y0, y1⟩ := hY.out _ ((hB1.out.block _ (Array.getElem?_eq_some_iff.1 H0.out.2.2.1).1).trans H0.out.2.2.1)))
    | (at_builtin; refine wpl_a8 (w0 := w0) w0.heap.size rfl (.tmp 13) (.tmp 15) rfl A2 (64 * a) c2 _ B 64 e ys (64 * a + 64) _ rfl rfl hO1.out (H0.out.2.1.below hB1.out) hB1.out hB1.out.size rfl (by omega) rfl ?_; intro A3 c3 w2 hO2 hB2; clear y0 y1; (obtain ⟨y0, y1⟩ := hY.out _ ((hB2.out.block _ (Array.getElem?_eq_some_iff.1 H0.out.2.2.1).1).trans H0.out.2.2.1)))
    | (at_builtin; refine wpl_a8 (w0 := w0) w0.heap.size rfl (.tmp 17) (.tmp 23) rfl A3 (64 * a + 64) c3 _ _ (n - (64 * a + 64)) _ (xs.drop (64 * a + 64)) n _ rfl rfl hO2.out ((H0.out.1.drop (64 * a + 64) (by omega)).below hB2.out) hB2.out hB2.out.size (by omega) (by omega) rfl ?_; intro A4 c4 w3 hO3 hB3)
    | fail)
  go_ret
  rw [hN'.out]
  refine ⟨A4, c4, rfl, ?_, below_then H0.out.2.2.2 (by rw [← hN'.out]; exact H0.out.2.2.2.size) hB3.out⟩
  have h := hO3.out.mono (show N ≤ w0.heap.size from Nat.le_of_lt (Array.getElem?_eq_some_iff.1 H0.out.2.2.1).1)
  have e1 : ([] ++ xs.take (64 * a) ++ ys) ++ xs.drop (64 * a + 64) = putL xs ys (64 * a) := by
    unfold putL
    rw [HLN.out.2, List.nil_append, List.append_assoc]
  rw [e1] at h
  exact h
set_option maxHeartbeats 4000000 in
set_option maxRecDepth 100000 in
theorem rimage_any (A : Option Addr) (n c : Nat) (B : Option Addr) (m e : Nat) (hs : List (Int × Option Addr × Nat × Nat)) (d : DV) (w : World) (h : RM w A n c B m e hs d) (ok : d.ok (nD d)) (hn : n ≤ 100000000) :
    Calls Try.prog 54 #[.agg (rv d A n c B m e)] w fun e' w' => ∃ A1 c1, e' = .returned (.slice A1 n c1) ∧ Ow w' w.heap.size A1 n c1 (imD d) ∧ Below w.heap.size w w' := by
  obtain ⟨bx, hbx⟩ : ∃ b : Obj, Obj.cells #[.int .i64 d.limit, .slice A n c, .slice B m e, .int .i64 d.ops, .int .i64 d.fuse, .bool d.down] 47 = b := ⟨_, rfl⟩
  have hB0 := (Below.refl _ w).alloc (Nat.le_refl _) bx
  have hlim := h.rr.lim
  have hln : d.l.length = n := h.bl.len
  have H0 := Aside0.mk (And.intro (h.below hB0) (And.intro (heap_alloc_new w bx) hB0))
  have HOK := Aside0.mk (And.intro ok hln)
  replace hbx := Aside0.mk hbx
  clear h hB0 ok hln
  show Calls Try.prog 54 #[.agg #[.int .i64 d.limit, .slice A n c, .slice B m e, .int .i64 d.ops, .int .i64 d.fuse, .bool d.down]] w _
  go_enter Try.func54, Try.ntmps54
  go_upto_region 1 with fail
  rw [hbx.out]
  obtain ⟨w0, hw0⟩ : ∃ X, w.alloc bx = X := ⟨_, rfl⟩
  obtain ⟨N, hN⟩ : ∃ X, w.heap.size = X := ⟨_, rfl⟩
  rw [hw0, hN] at H0
  rw [hw0, hN]
  have hY := Aside0.mk (show ∀ X : World, X.heap[N]? = some bx → X.cell? ⟨N, 1, none⟩ = some (.slice A n c) ∧ X.cell? ⟨N, 2, none⟩ = some (.slice B m e) from fun X hX => by
    rw [← hbx.out] at hX
    exact ⟨(row6_cells hX).2.1, (row6_cells hX).2.2.1⟩)
  have hN' := Aside0.mk hN
  clear hw0 hN hbx
  obtain ⟨y1, y2⟩ := hY.out _ H0.out.2.1
  have HL := Aside0.mk (Ow.lit0 w0 w0.heap.size w0.heap.size rfl (Nat.le_refl _))
  have y1' := cell_below ((Below.refl _ w0).alloc (Nat.le_refl _) (.cells #[] 5)) y1
  go_upto_region 3 with (at_builtin; refine wpl_a8 (w0 := w0) w0.heap.size rfl (.tmp 5) (.tmp 7) rfl _ 0 0 [] A n c d.l n _ rfl rfl HL.out (H0.out.1.bl.alloc _) ((Below.refl _ _).alloc (Nat.le_refl _) _) (by simp) (by omega) (by omega) rfl ?_; clear HL; intro A2 c2 w1 hO1 hB1)
  clear y1 y2 y1'
  go_loopg [3, 4] m (fun gk v3 v4 wr => ∃ (j : Nat) (A7 : Option Addr) (c7 : Nat), Aside (gk + j = m) ∧ v4 = .int .i64 (j : Int) ∧ v3 = .slice A7 n c7 ∧ Aside0 (Ow wr w0.heap.size A7 n c7 (seenL d.l (d.row.take j)) ∧ Below w0.heap.size w0 wr))
  case atStart => exact ⟨0, A2, c2, rfl, rfl, rfl, ⟨by rw [List.take_zero]; exact hO1.out, hB1.out⟩⟩
  case round =>
    obtain ⟨j, A7, c7, hk, rfl, rfl, hI⟩ := hrel
    clear hO1 hB1
    have hjm : j ≤ m := by have := hk.out; omega
    obtain ⟨y1, y2⟩ := hY.out _ ((hI.out.2.block _ (Array.getElem?_eq_some_iff.1 H0.out.2.1).1).trans H0.out.2.1)
    rcases Nat.lt_or_ge j m with hlt | hge
    · have hjn : (j : Int) < (m : Int) := by omega
      obtain ⟨ad, p, rfl, hp, c0, c1⟩ := (H0.out.1.rr.below hI.out.2).two H0.out.1.hl j hlt
      obtain ⟨q, hq, hq1, hq2, hq3⟩ := (H0.out.1.below hI.out.2).each j p hp
      obtain ⟨p0, p1, p2, p3⟩ := p
      simp only at hq1 hq2 hq3 c0 c1
      subst hq1 hq2
      have hqe := HOK.out.1.each q (List.mem_of_getElem? hq)
      have hnd : n = nD d * 64 := by rw [← HOK.out.2]; exact HOK.out.1.len
      have HQ := Aside0.mk (And.intro hq (And.intro hq3 (And.intro hqe hnd)))
      clear hq hq3 hqe hnd hp
      go_wp2_with (go_at_call 52; refine (rover_any A7 n c7 (seenL d.l (d.row.take j)) q.1 p1 p3 q.2 wr hI.out.1.bs HQ.out.2.1 (by have := HQ.out.2.2; omega) hn).mono ?_; rintro e1 w2 ⟨A8, c8, rfl, hO, hB⟩; (have HS := Aside0.mk (And.intro (hO.mono (show w0.heap.size ≤ wr.heap.size from hI.out.2.size)) (below_then hI.out.2 hI.out.2.size hB))); clear hO hB)
      go_roundg (m - (j + 1))
      case measure => have := hk.out; omega
      case rel =>
        refine ⟨j + 1, A8, c8, (by show m - (j + 1) + (j + 1) = m; omega), by go_num, rfl, ⟨?_, HS.out.2⟩⟩
        rw [List.take_add_one, HQ.out.1, Option.toList_some, seenL_snoc]
        exact HS.out.1
    · obtain rfl : m = j := by omega
      have h9 := hI.out.1
      rw [List.take_of_length_le (by have := H0.out.1.len; have := H0.out.1.hl; omega)] at h9
      have H9 := Aside0.mk (And.intro (h9.mono (show N ≤ w0.heap.size from Nat.le_of_lt (Array.getElem?_eq_some_iff.1 H0.out.2.1).1)) (below_then H0.out.2.2 (by rw [← hN'.out]; exact H0.out.2.2.size) hI.out.2))
      clear h9
      go_wp2_with fail
      go_ret
      rw [hN'.out]
      exact ⟨A7, c7, rfl, H9.out.1, H9.out.2⟩
set_option maxHeartbeats 4000000 in
set_option maxRecDepth 100000 in
theorem ris_any (A : Option Addr) (n c : Nat) (B : Option Addr) (m e : Nat) (hs : List (Int × Option Addr × Nat × Nat)) (d : DV) (a k : Int) (w : World) (h : RM w A n c B m e hs d) (ok : d.ok (nD d)) (hn : n ≤ 100000000) (ha : a ≤ 9223372036854775807) :
    Calls Try.prog 53 #[.agg (rv d A n c B m e), .int .i64 a, .int .i64 k] w fun e' w' => e' = .returned (.bool (hasB (nD d) a k)) ∧ Below w.heap.size w w' := by
  obtain ⟨bx, hbx⟩ : ∃ b : Obj, Obj.cells #[.int .i64 d.limit, .slice A n c, .slice B m e, .int .i64 d.ops, .int .i64 d.fuse, .bool d.down] 47 = b := ⟨_, rfl⟩
  have hB0 := (Below.refl _ w).alloc (Nat.le_refl _) bx
  have hln : d.l.length = n := h.bl.len
  have hnd : n = nD d * 64 := by rw [← hln]; exact ok.len
  obtain ⟨sz, hsz⟩ : ∃ x, nD d = x := ⟨_, rfl⟩
  rw [hsz] at hnd ⊢
  have H0 := Aside0.mk (And.intro (heap_alloc_new w bx) hB0)
  replace hbx := Aside0.mk hbx
  have dv : (n : Int).tdiv 64 = (sz : Int) := by rw [div64, show n / 64 = sz by omega]
  have HND := Aside0.mk hnd
  clear h hB0 hln ok hsz hnd
  obtain ⟨rb, hrb⟩ : ∃ b, hasB sz a k = b := ⟨_, rfl⟩
  rw [hrb]
  have HRB := Aside0.mk hrb
  unfold hasB at hrb
  show Calls Try.prog 53 #[.agg #[.int .i64 d.limit, .slice A n c, .slice B m e, .int .i64 d.ops, .int .i64 d.fuse, .bool d.down], .int .i64 a, .int .i64 k] w _
  go_enter Try.func53, Try.ntmps53
  go_upto_region 1 with fail
  rw [hbx.out]
  obtain ⟨w0, hw0⟩ : ∃ X, w.alloc bx = X := ⟨_, rfl⟩
  obtain ⟨N, hN⟩ : ∃ X, w.heap.size = X := ⟨_, rfl⟩
  rw [hw0, hN] at H0
  rw [hw0, hN]
  have hN' := Aside0.mk hN
  have hr0 := H0.out.1
  rw [← hbx.out] at hr0
  have y1 := (row6_cells hr0).2.1
  clear hw0 hN hbx hr0
  have dv2 : (n : Int) / 64 = (sz : Int) := by have := HND.out; omega
  by_cases q1 : 0 ≤ a
  · have g1 : decide (0 ≤ a) = true := decide_eq_true q1
    by_cases q2 : 0 ≤ k
    · have g2 : decide (0 ≤ k) = true := decide_eq_true q2
      by_cases q3 : a ≤ (sz : Int)
      · have g3 : decide (a ≤ (sz : Int)) = true := decide_eq_true q3
        have w1' : IntKind.i64.wrap ((sz : Int) - a) = (sz : Int) - a := IntWalk.i64_in _ (by have := HND.out; omega)
        obtain rfl : decide (k ≤ (sz : Int) - a) = rb := by rw [← hrb]; simp [q1, q2, q3]
        clear hrb q1 q2 q3 dv
        go_wp2_with fail
        go_ret
        rw [hN'.out]
        exact ⟨rfl, H0.out.2⟩
      · have g3 : decide (a ≤ (sz : Int)) = false := decide_eq_false q3
        obtain rfl : false = rb := by rw [← hrb]; simp [q3]
        clear hrb q1 q2 q3 dv
        go_wp2_with fail
        go_ret
        rw [hN'.out]
        exact ⟨rfl, H0.out.2⟩
    · have g2 : decide (0 ≤ k) = false := decide_eq_false q2
      obtain rfl : false = rb := by rw [← hrb]; simp [q2]
      clear hrb q1 q2 dv
      go_wp2_with fail
      go_ret
      rw [hN'.out]
      exact ⟨rfl, H0.out.2⟩
  · have g1 : decide (0 ≤ a) = false := decide_eq_false q1
    obtain rfl : false = rb := by rw [← hrb]; simp [q1]
    clear hrb q1 dv
    go_wp2_with fail
    go_ret
    rw [hN'.out]
    exact ⟨rfl, H0.out.2⟩
end Go.Proofs.Ythhalmjapiempaa
