/- The document's disk: Do where it reads; Newest. -/
import Derived.Test.YthhalmjapiempaaS2
import Derived.Test.YthhalmjapiempaaN2
import Derived.Test.YthhalmjapiempaaZC
set_option linter.unusedVariables false
set_option linter.unusedSimpArgs false
namespace Go.Proofs.Ythhalmjapiempaa
open Go.RowKit

theorem row5_cells8 {W : World} {g : Nat} {T : TypeId} {a b c d e : Value} (k : W.heap[g]? = some (.cells #[a, b, c, d, e] T)) :
    W.cell? ⟨g, 0, none⟩ = some a ∧ W.cell? ⟨g, 1, none⟩ = some b ∧ W.cell? ⟨g, 2, none⟩ = some c ∧ W.cell? ⟨g, 3, none⟩ = some d ∧ W.cell? ⟨g, 4, none⟩ = some e :=
  ⟨by rw [cell_of_row _ _ _ _ _ _ k]; rfl, by rw [cell_of_row _ _ _ _ _ _ k]; rfl, by rw [cell_of_row _ _ _ _ _ _ k]; rfl, by rw [cell_of_row _ _ _ _ _ _ k]; rfl, by rw [cell_of_row _ _ _ _ _ _ k]; rfl⟩
theorem rload8 {W : World} {g : Nat} {a b c d e f k i : Value} (h : W.heap[g]? = some (.cells #[a, b, c, d, e, f, k, i] 24)) : (loadVar 24 ⟨g, 0, none⟩).run Try.prog W = .ok (.agg #[a, b, c, d, e, f, k, i]) W :=
  run_loadVar_row W g 24 24 _ (0, 0) _ h Try.underlying24 rfl (by kernel_rfl)
theorem heap3 (w : World) (a b c : Obj) : (((w.alloc a).alloc b).alloc c).heap[w.heap.size]? = some a ∧ (((w.alloc a).alloc b).alloc c).heap[w.heap.size + 1]? = some b ∧ (((w.alloc a).alloc b).alloc c).heap[w.heap.size + 1 + 1]? = some c ∧ Below w.heap.size w (((w.alloc a).alloc b).alloc c) := by
  refine ⟨?_, ?_, ?_, (((Below.refl _ w).alloc (Nat.le_refl _) a).alloc (by simp) b).alloc (by simp; omega) c⟩
  · exact ((((Below.refl _ (w.alloc a)).alloc (Nat.le_refl _) b).alloc (by simp) c).block _ (by simp)).trans (heap_alloc_new w a)
  · have := heap_alloc_new (w.alloc a) b
    rw [show (w.alloc a).heap.size = w.heap.size + 1 by simp] at this
    exact (((Below.refl _ ((w.alloc a).alloc b)).alloc (Nat.le_refl _) c).block _ (by simp)).trans this
  · have := heap_alloc_new ((w.alloc a).alloc b) c
    rwa [show ((w.alloc a).alloc b).heap.size = w.heap.size + 1 + 1 by simp] at this
theorem some_no {d : DV} (k : Nat) (h : nD d < 4 * (k + 1)) : someB d k 1 = [] := by
  unfold someB
  split
  · rfl
  · unfold readB
    refine if_neg fun q => ?_
    unfold readE at q
    split at q
    · exact absurd q (by decide)
    · split at q
      · rename_i h1
        have := of_decide_eq_true h1
        omega
      · exact absurd q (by decide)
def mrf (xs : List UInt8) : MV := ⟨b8 xs 4, b8 xs 5, b8 xs 6, rfN xs 0, rfN xs 1, rfN xs 2, rfN xs 3, rfCu xs⟩
theorem mrf_of {xs : List UInt8} (h : refE xs = 0) : mvOf xs = mrf xs := by
  obtain ⟨f1, f2, f3, f4, f5, f6, f7, f8⟩ := rd_rf h
  unfold mvOf mrf
  rw [f1, f2, f3, f4, f5, f6, f7, f8]
theorem new_of {d : DV} (hd : d.down = false) {xs ys : List UInt8} (hx : someB d 0 1 = xs) (hy : someB d 1 1 = ys) :
    (chAt (refE xs) (rfN xs 0) (refE ys) (rfN ys 0) = -1 → newAt d = -1 ∧ newE d = chE (refE xs) (refE ys) ∧ newM d = mv0) ∧
    (chAt (refE xs) (rfN xs 0) (refE ys) (rfN ys 0) = 0 → refE xs = 0 → newAt d = 0 ∧ newE d = 0 ∧ newM d = mrf xs) ∧
    (chAt (refE xs) (rfN xs 0) (refE ys) (rfN ys 0) = 1 → refE ys = 0 → newAt d = 1 ∧ newE d = 0 ∧ newM d = mrf ys) := by
  have hnd : ¬ (d.down = true) := by rw [hd]; decide
  have hc : chP xs ys = chAt (refE xs) (rfN xs 0) (refE ys) (rfN ys 0) := ch_eq xs ys
  unfold newAt newE newM
  rw [if_neg hnd, if_neg hnd, if_neg hnd, hx, hy, hc]
  refine ⟨fun h => ?_, fun h h0 => ?_, fun h h0 => ?_⟩
  · rw [h]
    exact ⟨rfl, chE_eq xs ys, rfl⟩
  · rw [h]
    exact ⟨rfl, rfl, mrf_of h0⟩
  · rw [h]
    exact ⟨rfl, rfl, mrf_of h0⟩
/-- The cells of a disk's box and of an op's box. -/
def SS3 (N N1 : Nat) (A : Option Addr) (n c : Nat) (B : Option Addr) (m e : Nat) (d : DV) (a k : Int) (w' : World) : Prop := (w'.cell? ⟨N, 0, none⟩ = some (.int .i64 d.limit) ∧ w'.cell? ⟨N, 1, none⟩ = some (.slice A n c) ∧ w'.cell? ⟨N, 2, none⟩ = some (.slice B m e) ∧ w'.cell? ⟨N, 3, none⟩ = some (.int .i64 d.ops) ∧ w'.cell? ⟨N, 4, none⟩ = some (.int .i64 d.fuse) ∧ w'.cell? ⟨N, 5, none⟩ = some (.bool false)) ∧ (w'.cell? ⟨N1, 0, none⟩ = some (.int .i64 1) ∧ w'.cell? ⟨N1, 1, none⟩ = some (.int .i64 a) ∧ w'.cell? ⟨N1, 2, none⟩ = some (.int .i64 k) ∧ w'.cell? ⟨N1, 3, none⟩ = some (.slice none 0 0) ∧ w'.cell? ⟨N1, 4, none⟩ = some (.slice none 0 0))
set_option maxHeartbeats 16000000 in
set_option maxRecDepth 100000 in
theorem rread_any (A : Option Addr) (n c : Nat) (B : Option Addr) (m e : Nat) (hs : List (Int × Option Addr × Nat × Nat)) (d : DV) (a k : Int) (w : World) (h : RM w A n c B m e hs d) (ok : d.ok (nD d)) (hn : n ≤ 100000000) (ha : a ≤ 9223372036854775807) :
    Calls Try.prog 22 #[.agg (rv d A n c B m e), .agg #[.int .i64 1, .int .i64 a, .int .i64 k, .slice none 0 0, .slice none 0 0]] w fun e' w' => ∃ A1 c1, e' = .returned (.tuple #[.agg (rv d A n c B m e), .slice A1 (readB d a k).length c1, .int .i64 (readE d a k)]) ∧ Bs w' A1 (readB d a k).length c1 (readB d a k) ∧ Below w.heap.size w w' := by
  have hln : d.l.length = n := h.bl.len
  have hnd : n = nD d * 64 := by rw [← hln]; exact ok.len
  obtain ⟨bd, hbd⟩ : ∃ b : Obj, Obj.cells #[.int .i64 d.limit, .slice A n c, .slice B m e, .int .i64 d.ops, .int .i64 d.fuse, .bool d.down] 47 = b := ⟨_, rfl⟩
  obtain ⟨bo, hbo⟩ : ∃ b : Obj, Obj.cells #[.int .i64 1, .int .i64 a, .int .i64 k, .slice none 0 0, .slice none 0 0] 54 = b := ⟨_, rfl⟩
  obtain ⟨h1, h2, h3, h4⟩ := heap3 w bd bo (.cells #[.int .i64 0, .slice none 0 0, .slice none 0 0, .int .i64 0, .int .i64 0, .bool false] 47)
  have H0 := Aside0.mk (And.intro (h.below h4) (And.intro h1 (And.intro h2 (And.intro h3 h4))))
  have HOK := Aside0.mk ok
  have HND := Aside0.mk hnd
  replace hbd := Aside0.mk hbd
  replace hbo := Aside0.mk hbo
  clear h h1 h2 h3 h4 ok hln hnd
  show Calls Try.prog 22 #[.agg #[.int .i64 d.limit, .slice A n c, .slice B m e, .int .i64 d.ops, .int .i64 d.fuse, .bool d.down], .agg #[.int .i64 1, .int .i64 a, .int .i64 k, .slice none 0 0, .slice none 0 0]] w _
  go_enter Try.func22, Try.ntmps22
  go_upto_region 1 with fail
  rw [hbd.out, hbo.out]
  obtain ⟨w0, hw0⟩ : ∃ X, ((w.alloc bd).alloc bo).alloc (.cells #[.int .i64 0, .slice none 0 0, .slice none 0 0, .int .i64 0, .int .i64 0, .bool false] 47) = X := ⟨_, rfl⟩
  obtain ⟨N2, hN2⟩ : ∃ X, w.heap.size + 1 + 1 = X := ⟨_, rfl⟩
  obtain ⟨N1, hN1⟩ : ∃ X, w.heap.size + 1 = X := ⟨_, rfl⟩
  obtain ⟨N, hN⟩ : ∃ X, w.heap.size = X := ⟨_, rfl⟩
  rw [hw0, hN2, hN1, hN] at H0
  rw [hw0, hN2, hN1, hN]
  have hN' := Aside0.mk hN
  have hNN := Aside0.mk (show N < N2 ∧ N1 < N2 by omega)
  clear hw0 hN2 hN1 hN
  have hYD := Aside0.mk (show ∀ X : World, X.heap[N]? = some bd → X.cell? ⟨N, 0, none⟩ = some (.int .i64 d.limit) ∧ X.cell? ⟨N, 1, none⟩ = some (.slice A n c) ∧ X.cell? ⟨N, 2, none⟩ = some (.slice B m e) ∧ X.cell? ⟨N, 3, none⟩ = some (.int .i64 d.ops) ∧ X.cell? ⟨N, 4, none⟩ = some (.int .i64 d.fuse) ∧ X.cell? ⟨N, 5, none⟩ = some (.bool d.down) from fun X hX => by rw [← hbd.out] at hX; exact row6_cells hX)
  have hYO := Aside0.mk (show ∀ X : World, X.heap[N1]? = some bo → X.cell? ⟨N1, 0, none⟩ = some (.int .i64 1) ∧ X.cell? ⟨N1, 1, none⟩ = some (.int .i64 a) ∧ X.cell? ⟨N1, 2, none⟩ = some (.int .i64 k) ∧ X.cell? ⟨N1, 3, none⟩ = some (.slice none 0 0) ∧ X.cell? ⟨N1, 4, none⟩ = some (.slice none 0 0) from fun X hX => by rw [← hbo.out] at hX; exact row5_cells8 hX)
  clear hbd hbo
  obtain ⟨x0, x1, x2, x3, x4, x5⟩ := hYD.out _ H0.out.2.1
  obtain ⟨y0, y1, y2, y3, y4⟩ := hYO.out _ H0.out.2.2.1
  obtain ⟨z0, z1, z2, z3, z4, z5⟩ := row6_cells H0.out.2.2.2.1
  have yf := fun j => Go.Joins.unfrozen_of_block H0.out.2.2.2.1 j
  cases hdn : d.down with
  | true =>
    rw [hdn] at x5
    have HE := Aside0.mk (show readE d a k = 10 ∧ readB d a k = [] from ⟨if_pos hdn, if_neg (by rw [show readE d a k = 10 from if_pos hdn]; decide)⟩)
    have HD := Aside0.mk (dload (row6_set (.int .i64 d.limit) (.slice A n c) (.slice B m e) (.int .i64 d.ops) (.int .i64 d.fuse) (.bool true) H0.out.2.2.2.1))
    have HDN := Aside0.mk hdn
    clear hdn
    go_wp2_with fail
    have hD := HD.out
    refine bodyPost_ret (v := .tuple #[.agg #[.int .i64 d.limit, .slice A n c, .slice B m e, .int .i64 d.ops, .int .i64 d.fuse, .bool true], .slice none 0 0, .int .i64 10]) (by simp [results, Try.results22, asAddr, hD]) rfl ?_
    rw [HE.out.1, HE.out.2, hN'.out, show rv d A n c B m e = #[.int .i64 d.limit, .slice A n c, .slice B m e, .int .i64 d.ops, .int .i64 d.fuse, .bool true] from by unfold rv; rw [HDN.out]]
    exact ⟨none, 0, rfl, Bs.nil _ _ _ (by omega), below_only H0.out.2.2.2.2 (only_set6 _ _ _ _ _ _) (Nat.le_of_lt hNN.out.1) (by rw [← hN'.out]; exact H0.out.2.2.2.2.size)⟩
  | false =>
    have HDN := Aside0.mk hdn
    rw [hdn] at x5
    have hYD := Aside0.mk (show ∀ X : World, X.heap[N]? = some bd → X.cell? ⟨N, 0, none⟩ = some (.int .i64 d.limit) ∧ X.cell? ⟨N, 1, none⟩ = some (.slice A n c) ∧ X.cell? ⟨N, 2, none⟩ = some (.slice B m e) ∧ X.cell? ⟨N, 3, none⟩ = some (.int .i64 d.ops) ∧ X.cell? ⟨N, 4, none⟩ = some (.int .i64 d.fuse) ∧ X.cell? ⟨N, 5, none⟩ = some (.bool false) from fun X hX => by have := hYD.out X hX; rw [HDN.out] at this; exact this)
    clear hdn
    have hrv : rv d A n c B m e = #[.int .i64 d.limit, .slice A n c, .slice B m e, .int .i64 d.ops, .int .i64 d.fuse, .bool false] := by unfold rv; rw [HDN.out]
    cases hh : hasB (nD d) a k with
    | false =>
      have HE := Aside0.mk (show readE d a k = 11 ∧ readB d a k = [] by
        have h1 : readE d a k = 11 := by unfold readE; rw [if_neg (by rw [HDN.out]; decide), if_neg (by rw [hh]; decide)]
        exact ⟨h1, if_neg (by rw [h1]; decide)⟩)
      have HH := Aside0.mk hh
      have HRV := Aside0.mk hrv
      have cIs := ris_any A n c B m e hs d a k w0 H0.out.1 HOK.out hn ha
      rw [HRV.out] at cIs
      clear hh hrv
      go_upto_region 25 with (go_at_call 53; refine cIs.mono ?_; rintro e1 w1 ⟨rfl, hB⟩; rw [HH.out]; (have H1 := Aside0.mk (And.intro ((hB.block _ (Array.getElem?_eq_some_iff.1 H0.out.2.1).1).trans H0.out.2.1) (And.intro ((hB.block _ (Array.getElem?_eq_some_iff.1 H0.out.2.2.2.1).1).trans H0.out.2.2.2.1) (below_then H0.out.2.2.2.2 (by rw [← hN'.out]; exact H0.out.2.2.2.2.size) hB)))); clear hB)
      clear x0 x1 x2 x3 x4 x5 y0 y1 y2 y3 y4 z0 z1 z2 z3 z4 z5 yf
      obtain ⟨x0, x1, x2, x3, x4, x5⟩ := hYD.out _ H1.out.1
      obtain ⟨z0, z1, z2, z3, z4, z5⟩ := row6_cells H1.out.2.1
      have yf := fun j => Go.Joins.unfrozen_of_block H1.out.2.1 j
      have HD := Aside0.mk (dload (row6_set (.int .i64 d.limit) (.slice A n c) (.slice B m e) (.int .i64 d.ops) (.int .i64 d.fuse) (.bool false) H1.out.2.1))
      go_wp2_with fail
      have hD := HD.out
      refine bodyPost_ret (v := .tuple #[.agg #[.int .i64 d.limit, .slice A n c, .slice B m e, .int .i64 d.ops, .int .i64 d.fuse, .bool false], .slice none 0 0, .int .i64 11]) (by simp [results, Try.results22, asAddr, hD]) rfl ?_
      rw [HE.out.1, HE.out.2, hN'.out, HRV.out]
      exact ⟨none, 0, rfl, Bs.nil _ _ _ (by omega), below_only H1.out.2.2 (only_set6 _ _ _ _ _ _) (Nat.le_of_lt hNN.out.1) (by rw [← hN'.out]; exact H1.out.2.2.size)⟩
    | true =>
      have hE : readE d a k = 0 := by unfold readE; rw [if_neg (by rw [HDN.out]; decide), if_pos hh]
      have HE := Aside0.mk hE
      have HRB := Aside0.mk (read_im HOK.out hE)
      have hhd := of_decide_eq_true hh
      have HH := Aside0.mk hh
      have HRV := Aside0.mk hrv
      have cIs := ris_any A n c B m e hs d a k w0 H0.out.1 HOK.out hn ha
      rw [HRV.out] at cIs
      clear hh hrv hE
      have hnd := HND.out
      have w1' : IntKind.i64.wrap (64 * a) = 64 * a := IntWalk.i64_in _ (by omega)
      have w2' : IntKind.i64.wrap (a + k) = a + k := IntWalk.i64_in _ (by omega)
      have w3' : IntKind.i64.wrap (64 * (a + k)) = 64 * (a + k) := IntWalk.i64_in _ (by omega)
      have HHD := Aside0.mk hhd
      clear hnd hhd
      go_upto_region 26 with (go_at_call 53; refine cIs.mono ?_; rintro e1 w1 ⟨rfl, hB⟩; rw [HH.out]; (have H1 := Aside0.mk (And.intro (H0.out.1.below hB) (And.intro ((hB.block _ (Array.getElem?_eq_some_iff.1 H0.out.2.1).1).trans H0.out.2.1) (And.intro ((hB.block _ (Array.getElem?_eq_some_iff.1 H0.out.2.2.1).1).trans H0.out.2.2.1) (And.intro ((hB.block _ (Array.getElem?_eq_some_iff.1 H0.out.2.2.2.1).1).trans H0.out.2.2.2.1) (below_then H0.out.2.2.2.2 (by rw [← hN'.out]; exact H0.out.2.2.2.2.size) hB)))))); clear hB)
      clear x0 x1 x2 x3 x4 x5 y0 y1 y2 y3 y4 z0 z1 z2 z3 z4 z5 yf
      obtain ⟨wd, hwd⟩ : ∃ X, w1.drew = X := ⟨_, rfl⟩
      have hBd := below_drew (Below.refl w1.heap.size w1)
      rw [hwd] at hBd
      have Hd := Aside0.mk (And.intro (H1.out.1.below hBd) (And.intro ((hBd.block _ (Array.getElem?_eq_some_iff.1 H1.out.2.1).1).trans H1.out.2.1) (And.intro ((hBd.block _ (Array.getElem?_eq_some_iff.1 H1.out.2.2.1).1).trans H1.out.2.2.1) (And.intro ((hBd.block _ (Array.getElem?_eq_some_iff.1 H1.out.2.2.2.1).1).trans H1.out.2.2.2.1) (below_then H1.out.2.2.2.2 (by rw [← hN'.out]; exact H1.out.2.2.2.2.size) hBd)))))
      have HS := Aside0.mk (show SS3 N N1 A n c B m e d a k wd from And.intro (hYD.out _ Hd.out.2.1) (hYO.out _ Hd.out.2.2.1))
      clear hBd
      refine wp_region_M (fun j => decide (j < 14)) (SS3 N N1 A n c B m e d a k) (by kernel_rfl) ?_
      rw [hwd]
      clear hwd
      refine wpAnyM_take (i := 0) (v := ?_) (by simp only [List.getElem?_toArray, List.getElem?_cons_succ, List.getElem?_cons_zero]; rfl) (by kernel_rfl) (by kernel_rfl) (by kernel_rfl) (by kernel_rfl) (by exact fun _ _ _ h => h) (Or.inl ⟨by rfl, ?_⟩) HS.out ?_
      rotate_left
      · (intro w' hSw; (unfold SS3 at hSw); go_simp; try with_reducible rfl)
      try simp only [Act.put, List.setIfInBounds_toArray, List.set_cons_zero, List.set_cons_succ]
      refine wpAnyM_take (i := 1) (v := ?_) (by simp only [List.getElem?_toArray, List.getElem?_cons_succ, List.getElem?_cons_zero]; rfl) (by kernel_rfl) (by kernel_rfl) (by kernel_rfl) (by kernel_rfl) (by exact fun _ _ _ h => h) (Or.inl ⟨by rfl, ?_⟩) HS.out ?_
      rotate_left
      · (intro w' hSw; (unfold SS3 at hSw); go_simp; try with_reducible rfl)
      try simp only [Act.put, List.setIfInBounds_toArray, List.set_cons_zero, List.set_cons_succ]
      refine wpAnyM_take (i := 3) (v := ?_) (by simp only [List.getElem?_toArray, List.getElem?_cons_succ, List.getElem?_cons_zero]; rfl) (by kernel_rfl) (by kernel_rfl) (by kernel_rfl) (by kernel_rfl) (by exact fun _ _ _ h => h) (Or.inl ⟨by rfl, ?_⟩) HS.out ?_
      rotate_left
      · (intro w' hSw; (unfold SS3 at hSw); go_simp; try with_reducible rfl)
      try simp only [Act.put, List.setIfInBounds_toArray, List.set_cons_zero, List.set_cons_succ]
      refine wpAnyM_take (i := 4) (v := ?_) (by simp only [List.getElem?_toArray, List.getElem?_cons_succ, List.getElem?_cons_zero]; rfl) (by kernel_rfl) (by kernel_rfl) (by kernel_rfl) (by kernel_rfl) (by exact fun _ _ _ h => h) (Or.inl ⟨by rfl, ?_⟩) HS.out ?_
      rotate_left
      · (intro w' hSw; (unfold SS3 at hSw); go_simp; try with_reducible rfl)
      try simp only [Act.put, List.setIfInBounds_toArray, List.set_cons_zero, List.set_cons_succ]
      refine wpAnyM_take (i := 5) (v := ?_) (by simp only [List.getElem?_toArray, List.getElem?_cons_succ, List.getElem?_cons_zero]; rfl) (by kernel_rfl) (by kernel_rfl) (by kernel_rfl) (by kernel_rfl) (by exact fun _ _ _ h => h) (Or.inl ⟨by rfl, ?_⟩) HS.out ?_
      rotate_left
      · (intro w' hSw; (unfold SS3 at hSw); go_simp; try with_reducible rfl)
      try simp only [Act.put, List.setIfInBounds_toArray, List.set_cons_zero, List.set_cons_succ]
      refine wpAnyM_take (i := 6) (v := ?_) (by simp only [List.getElem?_toArray, List.getElem?_cons_succ, List.getElem?_cons_zero]; rfl) (by kernel_rfl) (by kernel_rfl) (by kernel_rfl) (by kernel_rfl) (by exact fun _ _ _ h => h) (Or.inl ⟨by rfl, ?_⟩) HS.out ?_
      rotate_left
      · (intro w' hSw; (unfold SS3 at hSw); go_simp; try with_reducible rfl)
      try simp only [Act.put, List.setIfInBounds_toArray, List.set_cons_zero, List.set_cons_succ]
      refine wpAnyM_take (i := 7) (v := ?_) (by simp only [List.getElem?_toArray, List.getElem?_cons_succ, List.getElem?_cons_zero]; rfl) (by kernel_rfl) (by kernel_rfl) (by kernel_rfl) (by kernel_rfl) (by exact fun _ _ _ h => h) (Or.inl ⟨by rfl, ?_⟩) HS.out ?_
      rotate_left
      · (intro w' hSw; (unfold SS3 at hSw); go_simp; try with_reducible rfl)
      try simp only [Act.put, List.setIfInBounds_toArray, List.set_cons_zero, List.set_cons_succ]
      refine wpAnyM_take (i := 8) (v := ?_) (by simp only [List.getElem?_toArray, List.getElem?_cons_succ, List.getElem?_cons_zero]; rfl) (by kernel_rfl) (by kernel_rfl) (by kernel_rfl) (by kernel_rfl) (by exact fun _ _ _ h => h) (Or.inl ⟨by rfl, ?_⟩) HS.out ?_
      rotate_left
      · (intro w' hSw; (unfold SS3 at hSw); go_simp; try with_reducible rfl)
      try simp only [Act.put, List.setIfInBounds_toArray, List.set_cons_zero, List.set_cons_succ]
      refine wpAnyM_take (i := 9) (v := ?_) (by simp only [List.getElem?_toArray, List.getElem?_cons_succ, List.getElem?_cons_zero]; rfl) (by kernel_rfl) (by kernel_rfl) (by kernel_rfl) (by kernel_rfl) (by exact fun _ _ _ h => h) (Or.inl ⟨by rfl, ?_⟩) HS.out ?_
      rotate_left
      · (intro w' hSw; (unfold SS3 at hSw); go_simp; try with_reducible rfl)
      try simp only [Act.put, List.setIfInBounds_toArray, List.set_cons_zero, List.set_cons_succ]
      refine wpAnyM_take (i := 10) (v := ?_) (by simp only [List.getElem?_toArray, List.getElem?_cons_succ, List.getElem?_cons_zero]; rfl) (by kernel_rfl) (by kernel_rfl) (by kernel_rfl) (by kernel_rfl) (by exact fun _ _ _ h => h) (Or.inl ⟨by rfl, ?_⟩) HS.out ?_
      rotate_left
      · (intro w' hSw; (unfold SS3 at hSw); go_simp; try with_reducible rfl)
      try simp only [Act.put, List.setIfInBounds_toArray, List.set_cons_zero, List.set_cons_succ]
      refine wpAnyM_take (i := 11) (v := ?_) (by simp only [List.getElem?_toArray, List.getElem?_cons_succ, List.getElem?_cons_zero]; rfl) (by kernel_rfl) (by kernel_rfl) (by kernel_rfl) (by kernel_rfl) (by exact fun _ _ _ h => h) (Or.inl ⟨by rfl, ?_⟩) HS.out ?_
      rotate_left
      · (intro w' hSw; (unfold SS3 at hSw); go_simp; try with_reducible rfl)
      try simp only [Act.put, List.setIfInBounds_toArray, List.set_cons_zero, List.set_cons_succ]
      have cIm := rimage_any A n c B m e hs d wd Hd.out.1 HOK.out hn
      rw [HRV.out] at cIm
      refine wpAnyM_one (i := 2) (by kernel_rfl) (by simp only [List.getElem?_toArray, List.getElem?_cons_succ, List.getElem?_cons_zero]; rfl) ?_
      go_wp2_with (go_at_call 54; refine cIm.mono ?_; rintro e1 w2 ⟨A2, c2, rfl, hO, hB⟩; (have H2 := Aside0.mk (And.intro hO.bs (And.intro ((hB.block _ (Array.getElem?_eq_some_iff.1 Hd.out.2.1).1).trans Hd.out.2.1) (And.intro ((hB.block _ (Array.getElem?_eq_some_iff.1 Hd.out.2.2.1).1).trans Hd.out.2.2.1) (And.intro ((hB.block _ (Array.getElem?_eq_some_iff.1 Hd.out.2.2.2.1).1).trans Hd.out.2.2.2.1) (And.intro (below_then Hd.out.2.2.2.2 (by rw [← hN'.out]; exact Hd.out.2.2.2.2.size) hB) (fun (h0 : 0 < n) b (e2 : A2 = some b) => show wd.heap.size ≤ b.block by (obtain ⟨q, e3, hq, _⟩ := hO.head h0); rw [e3] at e2; injection e2 with e2; rw [← e2]; exact hq))))))); clear hO hB)
      have HS2 := Aside0.mk (show SS3 N N1 A n c B m e d a k w2 from And.intro (hYD.out _ H2.out.2.1) (hYO.out _ H2.out.2.2.1))
      refine ⟨HS2.out, ?_⟩
      try simp only [Act.put, List.setIfInBounds_toArray, List.set_cons_zero, List.set_cons_succ]
      have hcap := H2.out.1.le
      have hccap := H2.out.1.cap
      have hhd := HHD.out
      have hnd := HND.out
      have t1 : ∀ W : World, (Instr.slice 22 (.slice A2 n c2) (some (.int .i64 (64 * a))) (some (.int .i64 (64 * (a + k)))) none).run Try.prog W = .ok (.slice (cutA A2 c2 (64 * a).toNat) (k.toNat * 64) (c2 - (64 * a).toNat)) W := fun W => by
        rw [sl8_lh W A2 n c2 .i64 .i64 (64 * a) (64 * (a + k)) (by omega) (by omega) (by omega), show (64 * (a + k)).toNat - (64 * a).toNat = k.toNat * 64 by omega]
      have hbs := ((H2.out.1.drop (64 * a).toNat (by omega)).take (k.toNat * 64) (by omega))
      rw [show (64 * a).toNat = a.toNat * 64 by omega] at hbs t1
      rw [← HRB.out] at hbs
      have HBS := Aside0.mk hbs
      clear hcap hccap hhd hnd hbs w1' w2' w3'
      refine wpAnyM_take (i := 12) (v := ?_) (by simp only [List.getElem?_toArray, List.getElem?_cons_succ, List.getElem?_cons_zero]; rfl) (by kernel_rfl) (by kernel_rfl) (by kernel_rfl) (by kernel_rfl) (by exact fun _ _ _ h => h) (Or.inl ⟨by rfl, ?_⟩) HS2.out ?_
      rotate_left
      · (intro w' hSw; (unfold SS3 at hSw); go_simp; try with_reducible rfl)
      try simp only [Act.put, List.setIfInBounds_toArray, List.set_cons_zero, List.set_cons_succ]
      obtain ⟨z0, z1, z2, z3, z4, z5⟩ := row6_cells H2.out.2.2.2.1
      have yf := fun j => Go.Joins.unfrozen_of_block H2.out.2.2.2.1 j
      have hO6 := only_set6 (W := w2) (g := N2) (.int .i64 d.limit) (.slice A n c) (.slice B m e) (.int .i64 d.ops) (.int .i64 d.fuse) (.bool false)
      have HS3 := Aside0.mk (show SS3 N N1 A n c B m e d a k _ from And.intro (hYD.out _ ((hO6.block _ (Array.getElem?_eq_some_iff.1 H2.out.2.1).1 (Nat.ne_of_lt hNN.out.1)).trans H2.out.2.1)) (hYO.out _ ((hO6.block _ (Array.getElem?_eq_some_iff.1 H2.out.2.2.1).1 (Nat.ne_of_lt hNN.out.2)).trans H2.out.2.2.1)))
      clear hO6
      refine wpAnyM_one (i := 13) (by kernel_rfl) (by simp only [List.getElem?_toArray, List.getElem?_cons_succ, List.getElem?_cons_zero]; rfl) ?_
      go_wp2_with fail
      refine ⟨HS3.out, ?_⟩
      try simp only [Act.put, List.setIfInBounds_toArray, List.set_cons_zero, List.set_cons_succ]
      refine wpAnyM_take0 (i := 14) (v := ?_) (by simp only [List.getElem?_toArray, List.getElem?_cons_succ, List.getElem?_cons_zero]; rfl) (by kernel_rfl) (by kernel_rfl) (by kernel_rfl) (by rfl) (by exact fun _ _ _ h => h) (Or.inl ⟨by rfl, ?_⟩) ?_
      rotate_left
      · (intro w' _; go_simp; try with_reducible rfl)
      try simp only [Act.put, List.setIfInBounds_toArray, List.set_cons_zero, List.set_cons_succ]
      refine wpAnyM_take0 (i := 15) (v := ?_) (by simp only [List.getElem?_toArray, List.getElem?_cons_succ, List.getElem?_cons_zero]; rfl) (by kernel_rfl) (by kernel_rfl) (by kernel_rfl) (by rfl) (by exact fun _ _ _ h => h) (Or.inl ⟨by rfl, ?_⟩) ?_
      rotate_left
      · (intro w' _; go_simp; try with_reducible rfl)
      try simp only [Act.put, List.setIfInBounds_toArray, List.set_cons_zero, List.set_cons_succ]
      refine wpAnyM_done (by kernel_rfl) ?_ _
      go_wp2_with fail
      have hD := dload (row6_set (.int .i64 d.limit) (.slice A n c) (.slice B m e) (.int .i64 d.ops) (.int .i64 d.fuse) (.bool false) H2.out.2.2.2.1)
      refine bodyPost_ret (v := .tuple #[.agg #[.int .i64 d.limit, .slice A n c, .slice B m e, .int .i64 d.ops, .int .i64 d.fuse, .bool false], .slice (cutA A2 c2 (a.toNat * 64)) (k.toNat * 64) (c2 - a.toNat * 64), .int .i64 0]) (by simp [results, Try.results22, asAddr, hD]) rfl ?_
      have hlr : (readB d a k).length = k.toNat * 64 := HBS.out.len
      rw [HE.out, hN'.out, hlr, HRV.out]
      refine ⟨_, _, rfl, ?_, below_only H2.out.2.2.2.2.1 (only_set6 _ _ _ _ _ _) (Nat.le_of_lt hNN.out.1) (by rw [← hN'.out]; exact H2.out.2.2.2.2.1.size)⟩
      refine HBS.out.only6 (only_set6 _ _ _ _ _ _) (fun h0 b e2 => ?_)
      have hhd := HHD.out
      have hnd := HND.out
      unfold cutA at e2
      have h9 : N2 < wd.heap.size := (Array.getElem?_eq_some_iff.1 Hd.out.2.2.2.1).1
      split at e2
      · have := H2.out.2.2.2.2.2 (by omega) b e2
        omega
      · obtain ⟨b0, e3, e4⟩ := Option.map_eq_some_iff.1 e2
        have := H2.out.2.2.2.2.2 (by omega) b0 e3
        rw [← e4, add_block]
        omega
end Go.Proofs.Ythhalmjapiempaa
