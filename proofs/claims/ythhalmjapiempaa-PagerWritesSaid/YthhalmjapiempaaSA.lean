/- The document's disk: what it holds does not lie in a box of a disk; Do where it writes. -/
import Derived.Test.YthhalmjapiempaaS9
set_option linter.unusedVariables false
set_option linter.unusedSimpArgs false
namespace Go.Proofs.Ythhalmjapiempaa
open Go.RowKit

theorem cells6_at {W : World} {g : Nat} {T : TypeId} {a b c d e f v : Value} (h : W.heap[g]? = some (.cells #[a, b, c, d, e, f] T)) (ad : Addr) (hb : ad.block = g) (hc : W.cell? ad = some v) :
    (ad.off = 0 ∧ v = a) ∨ (ad.off = 1 ∧ v = b) ∨ (ad.off = 2 ∧ v = c) ∨ (ad.off = 3 ∧ v = d) ∨ (ad.off = 4 ∧ v = e) ∨ (ad.off = 5 ∧ v = f) := by
  unfold World.cell? at hc
  rw [hb, h] at hc
  dsimp only at hc
  split at hc
  · cases hc
  · obtain ⟨bl, off, sp⟩ := ad
    simp only at hc ⊢
    rcases (show off = 0 ∨ off = 1 ∨ off = 2 ∨ off = 3 ∨ off = 4 ∨ off = 5 ∨ 6 ≤ off by omega) with r | r | r | r | r | r | r
    · subst r; injection hc with hc; exact .inl ⟨rfl, hc.symm⟩
    · subst r; injection hc with hc; exact .inr (.inl ⟨rfl, hc.symm⟩)
    · subst r; injection hc with hc; exact .inr (.inr (.inl ⟨rfl, hc.symm⟩))
    · subst r; injection hc with hc; exact .inr (.inr (.inr (.inl ⟨rfl, hc.symm⟩)))
    · subst r; injection hc with hc; exact .inr (.inr (.inr (.inr (.inl ⟨rfl, hc.symm⟩))))
    · subst r; injection hc with hc; exact .inr (.inr (.inr (.inr (.inr ⟨rfl, hc.symm⟩))))
    · rw [Array.getElem?_eq_none (by simpa using r)] at hc
      cases hc
theorem Bs.not6 {W : World} {g : Nat} {T : TypeId} {L o f : Int} {b : Bool} {A1 B1 : Option Addr} {n1 c1 m1 e1 : Nat} (hr : W.heap[g]? = some (.cells #[.int .i64 L, .slice A1 n1 c1, .slice B1 m1 e1, .int .i64 o, .int .i64 f, .bool b] T)) {A : Option Addr} {n c : Nat} {xs : List UInt8} (h : Bs W A n c xs) : 0 < n → ∀ a, A = some a → a.block ≠ g := fun h0 a ea hg => by
  obtain ⟨ad, e, hc⟩ := h.cells h0
  rw [ea] at e
  injection e with e
  subst e
  have h1 := hc 0 h0
  rcases cells6_at hr (a.add 0) (by rw [add_block]; exact hg) h1 with r | r | r | r | r | r <;> exact absurd r.2 (by intro z; first | (injection z with z1 z2; cases z1) | cases z)
theorem Rc.not6 {W : World} {g : Nat} {T : TypeId} {L o f : Int} {b : Bool} {A1 B1 : Option Addr} {n1 c1 m1 e1 : Nat} (hr : W.heap[g]? = some (.cells #[.int .i64 L, .slice A1 n1 c1, .slice B1 m1 e1, .int .i64 o, .int .i64 f, .bool b] T)) {B : Option Addr} {m e : Nat} {hs : List (Int × Option Addr × Nat × Nat)} (h : Rc W 2 B m e (wv hs)) (hl : hs.length = m)
    (hx : ∀ p ∈ hs, p.1 = L → p.2.2.1 ≠ n1) : 0 < m → ∀ a, B = some a → a.block ≠ g := fun h0 a ea hg => by
  obtain ⟨ad, e, hc⟩ := h.cells h0
  rw [ea] at e
  injection e with e
  subst e
  cases hs with
  | nil => simp at hl; omega
  | cons p r =>
    have h1 := hc 0 (.int .i64 p.1) rfl
    have h2 := hc 1 (.slice p.2.1 p.2.2.1 p.2.2.2) rfl
    have o1 : (a.add 0).off = a.off := rfl
    have o2 : (a.add 1).off = a.off + 1 := rfl
    rcases cells6_at hr (a.add 0) (by rw [add_block]; exact hg) h1 with q | q | q | q | q | q
    · rcases cells6_at hr (a.add 1) (by rw [add_block]; exact hg) h2 with s | s | s | s | s | s
      · exact absurd s.1 (by omega)
      · obtain ⟨_, s⟩ := s
        injection s with _ s _
        obtain ⟨_, q⟩ := q
        injection q with _ q
        exact hx p List.mem_cons_self q s
      · exact absurd s.1 (by omega)
      · exact absurd s.1 (by omega)
      · exact absurd s.1 (by omega)
      · exact absurd s.1 (by omega)
    · cases q.2
    · cases q.2
    · rcases cells6_at hr (a.add 1) (by rw [add_block]; exact hg) h2 with s | s | s | s | s | s
      · cases s.2
      · exact absurd s.1 (by omega)
      · exact absurd s.1 (by omega)
      · cases s.2
      · cases s.2
      · cases s.2
    · rcases cells6_at hr (a.add 1) (by rw [add_block]; exact hg) h2 with s | s | s | s | s | s
      · cases s.2
      · exact absurd s.1 (by omega)
      · exact absurd s.1 (by omega)
      · cases s.2
      · cases s.2
      · cases s.2
    · cases q.2
/-- What a disk holds stays, where a box of a disk is written. -/
theorem RM.stay6 {W X : World} {g : Nat} {T : TypeId} {L o f : Int} {b : Bool} {A1 B1 : Option Addr} {n1 c1 m1 e1 : Nat} (hr : W.heap[g]? = some (.cells #[.int .i64 L, .slice A1 n1 c1, .slice B1 m1 e1, .int .i64 o, .int .i64 f, .bool b] T)) {A : Option Addr} {n c : Nat} {B : Option Addr} {m e : Nat} {hs : List (Int × Option Addr × Nat × Nat)} {d : DV} (h : RM W A n c B m e hs d) (ho : OnlyB g W X) (hx : ∀ q ∈ d.row, (q.1 : Int) = L → n1 ≠ 64) : RM X A n c B m e hs d := by
  have hE := h.eq.only (g := g) ho (fun p hp a ea => by
    obtain ⟨j, hj⟩ := List.getElem?_of_mem hp
    obtain ⟨q, a1, a2, a3, a4⟩ := h.each j p hj
    exact Bs.not6 hr a4 (by omega) a ea)
  refine ⟨h.bl.only6 ho (Bs.not6 hr h.bl), h.rr.only6 ho (Rc.not6 hr h.rr h.hl fun p hp hL => ?_), h.hl, h.len, hE.each⟩
  obtain ⟨j, hj⟩ := List.getElem?_of_mem hp
  obtain ⟨q, a1, a2, a3, a4⟩ := h.each j p hj
  intro z
  exact hx q (List.mem_of_getElem? a1) (by rw [← a2]; exact hL) (by rw [← z]; exact a3)

set_option maxHeartbeats 16000000 in
set_option maxRecDepth 100000 in
theorem rdow_any (A : Option Addr) (n c : Nat) (B : Option Addr) (m e : Nat) (hs : List (Int × Option Addr × Nat × Nat)) (d : DV) (at_ : Int) (K : Option Addr) (kn kc : Nat) (b : List UInt8) (w : World) (h : RM w A n c B m e hs d) (ok : d.ok (nD d)) (hn : n ≤ 100000000) (hf : d.fuse ≤ 9223372036854775807) (ho : 0 ≤ d.ops ∧ d.ops ≤ 1000000) (hb : Bs w K kn kc b) (hkn : d.row.length + kn ≤ 1000000) (hat : -1000000000 ≤ at_ ∧ at_ ≤ 1000000000) :
    Calls Try.prog 22 #[.agg (rv d A n c B m e), .agg #[.int .i64 2, .int .i64 at_, .int .i64 0, .slice K kn kc, .slice none 0 0]] w (RDo (writeD d at_ b) (writeE d at_ b) w) := by
  have hln : d.l.length = n := h.bl.len
  have HK := Aside0.mk (And.intro hb (And.intro hkn hat))
  clear hb hkn hat
  have hnd : n = nD d * 64 := by rw [← hln]; exact ok.len
  obtain ⟨bd, hbd⟩ : ∃ b : Obj, Obj.cells #[.int .i64 d.limit, .slice A n c, .slice B m e, .int .i64 d.ops, .int .i64 d.fuse, .bool d.down] 47 = b := ⟨_, rfl⟩
  obtain ⟨bo, hbo⟩ : ∃ b : Obj, Obj.cells #[.int .i64 2, .int .i64 at_, .int .i64 0, .slice K kn kc, .slice none 0 0] 54 = b := ⟨_, rfl⟩
  obtain ⟨h1, h2, h3, h4⟩ := heap3 w bd bo (.cells #[.int .i64 0, .slice none 0 0, .slice none 0 0, .int .i64 0, .int .i64 0, .bool false] 47)
  have H0 := Aside0.mk (And.intro h1 (And.intro h2 (And.intro h3 h4)))
  have HW := Aside0.mk h
  have HOK := Aside0.mk ok
  have HND := Aside0.mk hnd
  have HF := Aside0.mk (And.intro hf ho)
  replace hbd := Aside0.mk hbd
  replace hbo := Aside0.mk hbo
  clear h h1 h2 h3 h4 ok hln hnd hf ho
  show Calls Try.prog 22 #[.agg #[.int .i64 d.limit, .slice A n c, .slice B m e, .int .i64 d.ops, .int .i64 d.fuse, .bool d.down], .agg #[.int .i64 2, .int .i64 at_, .int .i64 0, .slice K kn kc, .slice none 0 0]] w _
  go_enter Try.func22, Try.ntmps22
  go_upto_region 1 with fail
  rw [hbd.out, hbo.out]
  obtain ⟨w0, hw0⟩ : ∃ X, ((w.alloc bd).alloc bo).alloc (.cells #[.int .i64 0, .slice none 0 0, .slice none 0 0, .int .i64 0, .int .i64 0, .bool false] 47) = X := ⟨_, rfl⟩
  obtain ⟨N2, hN2⟩ : ∃ X, w.heap.size + 1 + 1 = X := ⟨_, rfl⟩
  obtain ⟨N1, hN1⟩ : ∃ X, w.heap.size + 1 = X := ⟨_, rfl⟩
  obtain ⟨N, hN⟩ : ∃ X, w.heap.size = X := ⟨_, rfl⟩
  rw [hw0, hN2, hN1, hN] at H0
  rw [hw0, hN2, hN1, hN]
  have hN' := Aside0.mk hN
  have hNN := Aside0.mk (show N < N1 ∧ N1 < N2 by omega)
  clear hw0 hN2 hN1 hN
  have hYO := Aside0.mk (show ∀ X : World, X.heap[N1]? = some bo → X.cell? ⟨N1, 0, none⟩ = some (.int .i64 2) ∧ X.cell? ⟨N1, 1, none⟩ = some (.int .i64 at_) ∧ X.cell? ⟨N1, 2, none⟩ = some (.int .i64 0) ∧ X.cell? ⟨N1, 3, none⟩ = some (.slice K kn kc) ∧ X.cell? ⟨N1, 4, none⟩ = some (.slice none 0 0) from fun X hX => by rw [← hbo.out] at hX; exact row5_cells8 hX)
  have hr0 := H0.out.1
  rw [← hbd.out] at hr0
  clear hbd hbo
  have HRM := Aside0.mk (show ∀ X : World, Below N w X → RM X A n c B m e hs d from fun X hX => HW.out.below (by rw [hN'.out]; exact hX))
  have HSZ := Aside0.mk (show ∀ X : World, Below N w X → N ≤ X.heap.size from fun X hX => by rw [← hN'.out]; exact hX.size)
  have yf := fun j => Go.Joins.unfrozen_of_block H0.out.2.2.1 j
  have yn := fun j => Go.Joins.unfrozen_of_block hr0 j
  have HR0 := Aside0.mk hr0
  obtain ⟨x0, x1, x2, x3, x4, x5⟩ := row6_cells hr0
  obtain ⟨y0, y1, y2, y3, y4⟩ := hYO.out _ H0.out.2.1
  obtain ⟨z0, z1, z2, z3, z4, z5⟩ := row6_cells H0.out.2.2.1
  clear hr0
  cases hdn : d.down with
  | true =>
    have HE := Aside0.mk (show wrE d (nD d) at_ b.length = 10 from if_pos hdn)
    rw [hdn] at x5
    have HDN := Aside0.mk hdn
    clear hdn
    have HD := Aside0.mk (dload (row6_set (.int .i64 d.limit) (.slice A n c) (.slice B m e) (.int .i64 d.ops) (.int .i64 d.fuse) (.bool true) H0.out.2.2.1))
    go_wp2_with fail
    have hD := HD.out
    refine bodyPost_ret (v := .tuple #[.agg #[.int .i64 d.limit, .slice A n c, .slice B m e, .int .i64 d.ops, .int .i64 d.fuse, .bool true], .slice none 0 0, .int .i64 10]) (by simp [results, Try.results22, asAddr, hD]) rfl ?_
    have hB := below_only H0.out.2.2.2 (only_set6 (W := w0) (g := N2) (.int .i64 d.limit) (.slice A n c) (.slice B m e) (.int .i64 d.ops) (.int .i64 d.fuse) (.bool true)) (by have := hNN.out; omega) (HSZ.out _ H0.out.2.2.2)
    rw [show writeD d at_ b = d from if_neg (by rw [HE.out]; decide), show writeE d at_ b = 10 by unfold writeE; rw [HE.out, if_neg (by decide)]]
    exact ⟨A, n, c, B, m, e, hs, by unfold rv; rw [HDN.out], HRM.out _ hB, by rw [hN'.out]; exact hB⟩
  | false =>
    rw [hdn] at x5
    have HDN := Aside0.mk hdn
    have cW := rwrite_any A n c B m e hs d at_ K kn kc b w0 (HRM.out _ H0.out.2.2.2) HOK.out hn HF.out.1 HF.out.2 hdn (HK.out.1.below (by rw [hN'.out]; exact H0.out.2.2.2)) HK.out.2.1 HK.out.2.2
    obtain ⟨dw, hdw⟩ : ∃ x, writeD d at_ b = x := ⟨_, rfl⟩
    obtain ⟨ew, hew⟩ : ∃ x, writeE d at_ b = x := ⟨_, rfl⟩
    rw [hdw, hew] at cW
    have HDW := Aside0.mk (And.intro hdw hew)
    clear hdn hdw hew
    rw [show rv d A n c B m e = #[.int .i64 d.limit, .slice A n c, .slice B m e, .int .i64 d.ops, .int .i64 d.fuse, .bool false] by unfold rv; rw [HDN.out]] at cW
    go_upto_region 29 with (go_at_call 55; refine cW.mono ?_; rintro e' w1 ⟨A1, n1, c1, B1, m1, e1, hs1, rfl, hR, hB⟩; unfold rv; (have H1 := Aside0.mk (And.intro hR (And.intro ((hB.block _ (Array.getElem?_eq_some_iff.1 H0.out.2.2.1).1).trans H0.out.2.2.1) (below_then H0.out.2.2.2 (HSZ.out _ H0.out.2.2.2) hB)))); clear hR hB x0 x1 x2 x3 x4 x5 y0 y1 y2 y3 y4 z0 z1 z2 z3 z4 z5 yf yn)
    have hBa := (Below.refl _ w1).alloc (Nat.le_refl _) (.cells #[.int .i64 dw.limit, .slice A1 n1 c1, .slice B1 m1 e1, .int .i64 dw.ops, .int .i64 dw.fuse, .bool dw.down] 47)
    have H2 := Aside0.mk (And.intro (H1.out.1.below hBa) (And.intro ((hBa.block _ (Array.getElem?_eq_some_iff.1 H1.out.2.1).1).trans H1.out.2.1) (And.intro (below_then H1.out.2.2 (HSZ.out _ H1.out.2.2) hBa) (heap_alloc_new w1 (.cells #[.int .i64 dw.limit, .slice A1 n1 c1, .slice B1 m1 e1, .int .i64 dw.ops, .int .i64 dw.fuse, .bool dw.down] 47)))))
    obtain ⟨w2, hw2⟩ : ∃ X, w1.alloc (.cells #[.int .i64 dw.limit, .slice A1 n1 c1, .slice B1 m1 e1, .int .i64 dw.ops, .int .i64 dw.fuse, .bool dw.down] 47) = X := ⟨_, rfl⟩
    obtain ⟨M, hM⟩ : ∃ X, w1.heap.size = X := ⟨_, rfl⟩
    rw [hw2, hM] at H2
    rw [hw2, hM]
    clear hw2 hM hBa
    obtain ⟨x0, x1, x2, x3, x4, x5⟩ := row6_cells H2.out.2.2.2
    obtain ⟨z0, z1, z2, z3, z4, z5⟩ := row6_cells H2.out.2.1
    have yf := fun j => Go.Joins.unfrozen_of_block H2.out.2.1 j
    have HD := Aside0.mk (dload (row6_set (.int .i64 dw.limit) (.slice A1 n1 c1) (.slice B1 m1 e1) (.int .i64 dw.ops) (.int .i64 dw.fuse) (.bool dw.down) H2.out.2.1))
    go_wp2_with fail
    have hD := HD.out
    refine bodyPost_ret (v := .tuple #[.agg #[.int .i64 dw.limit, .slice A1 n1 c1, .slice B1 m1 e1, .int .i64 dw.ops, .int .i64 dw.fuse, .bool dw.down], .slice none 0 0, .int .i64 ew]) (by simp [results, Try.results22, asAddr, hD]) rfl ?_
    have hO8 := only_set6 (W := w2) (g := N2) (.int .i64 dw.limit) (.slice A1 n1 c1) (.slice B1 m1 e1) (.int .i64 dw.ops) (.int .i64 dw.fuse) (.bool dw.down)
    have hB := below_only H2.out.2.2.1 hO8 (by have := hNN.out; omega) (HSZ.out _ H2.out.2.2.1)
    rw [HDW.out.1, HDW.out.2]
    refine ⟨A1, n1, c1, B1, m1, e1, hs1, rfl, ?_, by rw [hN'.out]; exact hB⟩
    exact RM.stay6 H2.out.2.1 H2.out.1 hO8 (fun q _ _ => by decide)
end Go.Proofs.Ythhalmjapiempaa
