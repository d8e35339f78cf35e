/- The walk of the law PagerAgain. -/
import Derived.Test.YthhalmjapiempaaNJ
import Derived.Test.YthhalmjapiempaaNI
import Derived.Test.YthhalmjapiempaaNG
import Derived.Test.YthhalmjapiempaaZH
set_option linter.unusedVariables false
set_option linter.unusedSimpArgs false
namespace Go.Proofs.Ythhalmjapiempaa
open Go.RowKit

/-- Boxes, rows of writes, cursors and a row of truths, that stand. -/
structure TA (W w0 : World) (A : Option Addr) (n c : Nat) (hs : List (Int × Option Addr × Nat × Nat)) (l : List (Int × List UInt8)) (B : Option Addr) (q k : Nat) (js : List (Int × Option Addr × Nat × Nat)) (more : List (Int × List UInt8)) (O : Option Addr) (ocu : List UInt8) (oc : Nat) (A' : Option Addr) (cu : List UInt8) (c' : Nat) (K : Option Addr) (kn kc : Nat) (ks : List Bool) (N0 M0 C0 P0 : Nat) (bo bm bc bn : Obj) (X : World) : Prop where
  bel : Below W.heap.size W X
  rl : Rl X A n c hs
  hs : Hs w0 [] X hs l
  rv : Rl X B q k js
  js : Hs w0 [] X js more
  co : Bs X O ocu.length oc ocu
  cm : Bs X A' cu.length c' cu
  kb : Rb X K kn kc ks
  kf : Free w0 [] K kn
  r0 : X.heap[N0]? = some bo
  r1 : X.heap[M0]? = some bm
  r2 : X.heap[C0]? = some bc
  r3 : X.heap[P0]? = some bn
theorem TA.step {W w0 : World} {A : Option Addr} {n c : Nat} {hs : List (Int × Option Addr × Nat × Nat)} {l : List (Int × List UInt8)} {B : Option Addr} {q k : Nat} {js : List (Int × Option Addr × Nat × Nat)} {more : List (Int × List UInt8)} {O : Option Addr} {ocu : List UInt8} {oc : Nat} {A' : Option Addr} {cu : List UInt8} {c' : Nat} {K : Option Addr} {kn kc : Nat} {ks : List Bool} {N0 M0 C0 P0 : Nat} {bo bm bc bn : Obj} {X Y : World} (h : TA W w0 A n c hs l B q k js more O ocu oc A' cu c' K kn kc ks N0 M0 C0 P0 bo bm bc bn X) (hB : Below X.heap.size X Y) : TA W w0 A n c hs l B q k js more O ocu oc A' cu c' K kn kc ks N0 M0 C0 P0 bo bm bc bn Y :=
  ⟨below_then h.bel h.bel.size hB, h.rl.below hB, h.hs.below hB, h.rv.below hB, h.js.below hB, h.co.below hB, h.cm.below hB, h.kb.below hB, h.kf, (hB.block _ (Array.getElem?_eq_some_iff.1 h.r0).1).trans h.r0, (hB.block _ (Array.getElem?_eq_some_iff.1 h.r1).1).trans h.r1, (hB.block _ (Array.getElem?_eq_some_iff.1 h.r2).1).trans h.r2, (hB.block _ (Array.getElem?_eq_some_iff.1 h.r3).1).trans h.r3⟩
theorem Free.since {w0 w2 : World} {K : Option Addr} {n : Nat} (h : Free w0 [] K n) (hz : w0.heap.size ≤ w2.heap.size) : Free w2 [] K n := fun h0 a e => (h h0 a e).elim (fun q => .inl (Nat.lt_of_lt_of_le q hz)) (fun ⟨o, q⟩ => by cases q)
theorem TA.since {W w0 : World} {A : Option Addr} {n c : Nat} {hs : List (Int × Option Addr × Nat × Nat)} {l : List (Int × List UInt8)} {B : Option Addr} {q k : Nat} {js : List (Int × Option Addr × Nat × Nat)} {more : List (Int × List UInt8)} {O : Option Addr} {ocu : List UInt8} {oc : Nat} {A' : Option Addr} {cu : List UInt8} {c' : Nat} {K : Option Addr} {kn kc : Nat} {ks : List Bool} {N0 M0 C0 P0 : Nat} {bo bm bc bn : Obj} {w2 X : World} (h : TA W w0 A n c hs l B q k js more O ocu oc A' cu c' K kn kc ks N0 M0 C0 P0 bo bm bc bn X) (hz : w0.heap.size ≤ w2.heap.size) : TA W w2 A n c hs l B q k js more O ocu oc A' cu c' K kn kc ks N0 M0 C0 P0 bo bm bc bn X :=
  ⟨h.bel, h.rl, h.hs.since hz, h.rv, h.js.since hz, h.co, h.cm, h.kb, h.kf.since hz, h.r0, h.r1, h.r2, h.r3⟩
theorem Rl.nil (w : World) : Rl w none 0 0 [] := ⟨rfl, Nat.le_refl _, by omega, by omega, fun h => absurd h (by omega)⟩
theorem row11_cells {W : World} {g : Nat} {T : TypeId} {a b c d e f h i j k l : Value} (q : W.heap[g]? = some (.cells #[a, b, c, d, e, f, h, i, j, k, l] T)) :
    W.cell? ⟨g, 0, none⟩ = some a ∧ W.cell? ⟨g, 1, none⟩ = some b ∧ W.cell? ⟨g, 2, none⟩ = some c ∧ W.cell? ⟨g, 3, none⟩ = some d ∧ W.cell? ⟨g, 4, none⟩ = some e ∧ W.cell? ⟨g, 5, none⟩ = some f ∧ W.cell? ⟨g, 6, none⟩ = some h ∧ W.cell? ⟨g, 7, none⟩ = some i ∧ W.cell? ⟨g, 8, none⟩ = some j ∧ W.cell? ⟨g, 9, none⟩ = some k ∧ W.cell? ⟨g, 10, none⟩ = some l :=
  ⟨by rw [cell_of_row _ _ _ _ _ _ q]; rfl, by rw [cell_of_row _ _ _ _ _ _ q]; rfl, by rw [cell_of_row _ _ _ _ _ _ q]; rfl, by rw [cell_of_row _ _ _ _ _ _ q]; rfl, by rw [cell_of_row _ _ _ _ _ _ q]; rfl, by rw [cell_of_row _ _ _ _ _ _ q]; rfl, by rw [cell_of_row _ _ _ _ _ _ q]; rfl, by rw [cell_of_row _ _ _ _ _ _ q]; rfl, by rw [cell_of_row _ _ _ _ _ _ q]; rfl, by rw [cell_of_row _ _ _ _ _ _ q]; rfl, by rw [cell_of_row _ _ _ _ _ _ q]; rfl⟩
theorem commit_ab {d : DV} {op : Int} (h : AB d 0 op) (l : List (Int × List UInt8)) (m : MV) (ks : List Bool) : AB (crashD (commitS d l m).2 ks) 0 (op + (l.length : Int) + 4) := by
  have key : AB (commitS d l m).2 (0 + totB (commitL l m)) (op + ((commitL l m).length : Int)) := by
    unfold commitS
    split
    · unfold allS
      exact (h.grow _).all _
    · exact h.up (by omega) (by omega)
  have hl : (commitL l m).length = l.length + 4 := by
    unfold commitL
    simp only [List.length_append, List.length_cons, List.length_nil]
    omega
  rw [hl] at key
  exact ⟨Nat.le_refl _, key.o0, by have := key.o1; show (commitS d l m).2.ops ≤ _; omega, by show (-1 : Int) ≤ _; omega⟩
theorem arm_ab {d : DV} {op : Int} {rl : Nat} (h : AB d rl op) (k : Int) (hk : k ≤ 1000) : AB (armD d k) rl op := ⟨h.rl, h.o0, h.o1, by show (if k < -1 then -1 else k) ≤ _; split <;> omega⟩
/-- append of all truths of a slice that is read. -/
theorem wpl_bools {P : Program} {ops : Array Oper} {rest : List Oper} {o : Oper} {a : Act} {Q : Exit → Act → World → Prop} {W : World} (base : Nat) (hgd : o.guard = none) (s x : Operand) (t T : TypeId)
    (ho : o.op = .call { callee := .builtin .append, args := #[s, x], argTypes := #[t, t] })
    (ht : P.underlying t = some (.slice T)) (hinfo : (P.info? T).map (fun i => (i.zero, i.size, i.bytes)) = some (some (.bool false), 1, 1))
    (A : Option Addr) (n c : Nat) (B : Option Addr) (m e : Nat) (us ks : List Bool) (hsv : a.eval s = .slice A n c) (hx : a.eval x = .slice B m e)
    (HO : Oc W base T 1 A n c (us.map Value.bool)) (HY : Rb W B m e ks) (hbase : base ≤ W.heap.size) (hnm : n + m ≤ 1000000000) {w0 : World} (HB : Below base w0 W)
    (h : ∀ A2 c2 w1, Aside0 (Oc w1 base T 1 A2 (n + m) c2 ((us ++ ks).map Value.bool)) → Aside0 (Below base w0 w1) → wpList P ops Q rest (a.put o.dst (.slice A2 (n + m) c2)) w1) :
    wpList P ops Q (o :: rest) a W := by
  refine wpl_append (w0 := w0) base hgd s x t T (.bool false) 1 1 ho ht hinfo rfl (by omega) (by omega) (.slice A n c) n (us.map Value.bool) B m e (ks.map Value.bool) hsv hx HO.row (by simp [HY.len]) (fun h0 => ?_) (fun u hu => ?_) HB hbase (by omega) ?_
  · obtain ⟨ad, e, hc⟩ := HY.cells h0
    refine ⟨ad, e, fun j u hu => ?_⟩
    rw [List.getElem?_map] at hu
    obtain ⟨b, hb, e2⟩ := Option.map_eq_some_iff.1 hu
    have hj : j < m := by
      have := (List.getElem?_eq_some_iff.1 hb).1
      rwa [HY.len] at this
    rw [hc j hj, ← e2, List.getD_eq_getElem?_getD, hb]
    rfl
  · obtain ⟨b, _, e⟩ := List.mem_map.1 hu
    rw [← e]
    rfl
  · intro v1 w1 hown hB hg hat
    obtain ⟨A2, c2, rfl⟩ := own_form hown
    refine h A2 c2 w1 ⟨⟨by rw [List.map_append]; exact hown, fun v hv => ?_, hnm⟩⟩ ⟨hB⟩
    obtain ⟨b, _, e⟩ := List.mem_map.1 hv
    rw [← e]
    rfl
theorem Oc.rb {W : World} {base n c : Nat} {T : TypeId} {A : Option Addr} {ks : List Bool} (h : Oc W base T 1 A n c (ks.map Value.bool)) : Rb W A n c ks := by
  have hl := h.len
  rw [List.length_map, Nat.mul_one] at hl
  refine ⟨hl, h.cap.1, h.cap.2, by have := h.lim; omega, fun h0 => ?_⟩
  obtain ⟨ad, e, hx⟩ := h.rc.cells h0
  refine ⟨ad, e, fun j hj => hx j _ ?_⟩
  rw [List.getElem?_map, List.getD_eq_getElem?_getD, List.getElem?_eq_getElem (by omega)]
  rfl
theorem oc_true {W : World} (base : Nat) (hb : base ≤ W.heap.size) : Oc (W.alloc (.cells #[.bool true] 4)) base 4 1 (some ⟨W.heap.size, 0, none⟩) 1 1 ([true].map Value.bool) := by
  refine ⟨?_, fun v hv => by simp at hv; rw [hv]; rfl, by omega⟩
  have := World.ownsRow_lit (base := base) (e := 4) (size := 1) W #[.bool true] 1 hb (by simp [maxLen]) (by simp)
  simpa using this

set_option maxHeartbeats 64000000 in
set_option maxRecDepth 100000 in
theorem pagerAgain_any (oge oph otg otx ort opg oli : Int) (O : Option Addr) (on oc : Nat) (ocu : List UInt8) (A : Option Addr) (n c : Nat) (hs : List (Int × Option Addr × Nat × Nat)) (l : List (Int × List UInt8)) (B : Option Addr) (q k : Nat) (js : List (Int × Option Addr × Nat × Nat)) (more : List (Int × List UInt8)) (I : Option Addr) (i j : Nat) (img : List UInt8) (ge ph tg tx rt pg li : Int) (A' : Option Addr) (cn c' : Nat) (cu : List UInt8) (fu : Int) (K : Option Addr) (kn kc : Nat) (ks : List Bool) (W : World)
    (hm : Bs W O on oc ocu) (hr : Wrs W A n c hs l) (hv : Wrs W B q k js more) (hi : Bs W I i j img) (hm2 : Bs W A' cn c' cu) (hk : Rb W K kn kc ks) (hf : -9223372036854775808 ≤ fu ∧ fu ≤ 9223372036854775807) :
    Calls Try.prog 8 #[.agg #[.int .i64 oge, .int .i64 oph, .int .i64 otg, .int .i64 otx, .int .i64 ort, .int .i64 opg, .int .i64 oli, .slice O on oc], .agg #[.slice A n c, .slice B q k], .agg #[.slice I i j, .int .i64 ge, .int .i64 ph, .int .i64 tg, .int .i64 tx, .int .i64 rt, .int .i64 pg, .int .i64 li, .slice A' cn c', .int .i64 fu, .slice K kn kc]] W fun e w' => e = .returned (.bool true) ∧ Below W.heap.size W w' := by
  obtain rfl := hm.len
  obtain rfl := hm2.len
  obtain ⟨bo, hbo⟩ : ∃ b : Obj, Obj.cells #[.int .i64 oge, .int .i64 oph, .int .i64 otg, .int .i64 otx, .int .i64 ort, .int .i64 opg, .int .i64 oli, .slice O ocu.length oc] 24 = b := ⟨_, rfl⟩
  obtain ⟨bp, hbp⟩ : ∃ b : Obj, Obj.cells #[.slice A n c, .slice B q k] 74 = b := ⟨_, rfl⟩
  obtain ⟨bc, hbc⟩ : ∃ b : Obj, Obj.cells #[.slice I i j, .int .i64 ge, .int .i64 ph, .int .i64 tg, .int .i64 tx, .int .i64 rt, .int .i64 pg, .int .i64 li, .slice A' cu.length c', .int .i64 fu, .slice K kn kc] 76 = b := ⟨_, rfl⟩
  have hb0 : Below W.heap.size W (((W.alloc bo).alloc bp).alloc bc) := (((Below.refl _ W).alloc (Nat.le_refl _) bo).alloc (by simp) bp).alloc (by simp; omega) bc
  have hr0 : (((W.alloc bo).alloc bp).alloc bc).heap[W.heap.size]? = some bo := (((Below.refl _ (W.alloc bo)).alloc (Nat.le_refl _) bp).alloc (by simp) bc).block _ (by simp) |>.trans (heap_alloc_new W bo)
  have hrp : (((W.alloc bo).alloc bp).alloc bc).heap[W.heap.size + 1]? = some bp := by
    have := heap_alloc_new (W.alloc bo) bp
    rw [show (W.alloc bo).heap.size = W.heap.size + 1 by simp] at this
    exact (((Below.refl _ ((W.alloc bo).alloc bp)).alloc (Nat.le_refl _) bc).block _ (by simp)).trans this
  have hr2 : (((W.alloc bo).alloc bp).alloc bc).heap[W.heap.size + 1 + 1]? = some bc := by
    have := heap_alloc_new ((W.alloc bo).alloc bp) bc
    rwa [show ((W.alloc bo).alloc bp).heap.size = W.heap.size + 1 + 1 by simp] at this
  have HT := Aside0.mk (show TA W W A n c hs l B q k js more O ocu oc A' cu c' K kn kc ks W.heap.size W.heap.size (W.heap.size + 1 + 1) W.heap.size bo bo bc bo (((W.alloc bo).alloc bp).alloc bc) from ⟨hb0, hr.rl.below hb0, hr.hs.below hb0, hv.rl.below hb0, hv.hs.below hb0, hm.below hb0, hm2.below hb0, hk.below hb0, Free.argb hk, hr0, hr0, hr2, hr0⟩)
  have HRP := Aside0.mk hrp
  have HL := Aside0.mk (And.intro hr.hs.len (And.intro hr.rl.len (And.intro hv.hs.len hv.rl.len)))
  have hcl := Aside0.mk hm2.lim
  have hol := Aside0.mk hm.lim
  have hkl := Aside0.mk hk.lim
  have HF := Aside0.mk hf
  replace hbo := Aside0.mk hbo
  replace hbp := Aside0.mk hbp
  replace hbc := Aside0.mk hbc
  clear hr hm hv hb0 hr0 hr2 hrp hi hm2 hk hf
  go_enter Try.func8, Try.ntmps8
  go_upto_region 1 with fail
  rw [hbo.out, hbp.out, hbc.out]
  obtain ⟨w1, hw1⟩ : ∃ X, ((W.alloc bo).alloc bp).alloc bc = X := ⟨_, rfl⟩
  obtain ⟨C0, hC0⟩ : ∃ X, W.heap.size + 1 + 1 = X := ⟨_, rfl⟩
  obtain ⟨Q0, hQ0⟩ : ∃ X, W.heap.size + 1 = X := ⟨_, rfl⟩
  obtain ⟨N0, hN0⟩ : ∃ X, W.heap.size = X := ⟨_, rfl⟩
  rw [hw1, hC0, hN0] at HT
  rw [hw1, hQ0] at HRP
  rw [hw1, hC0, hQ0, hN0]
  clear hw1 hN0 hQ0 hC0
  have hYO := Aside0.mk (show ∀ w' : World, w'.heap[N0]? = some bo → w'.cell? ⟨N0, 0, none⟩ = some (.int .i64 oge) ∧ w'.cell? ⟨N0, 1, none⟩ = some (.int .i64 oph) ∧ w'.cell? ⟨N0, 2, none⟩ = some (.int .i64 otg) ∧ w'.cell? ⟨N0, 3, none⟩ = some (.int .i64 otx) ∧ w'.cell? ⟨N0, 4, none⟩ = some (.int .i64 ort) ∧ w'.cell? ⟨N0, 5, none⟩ = some (.int .i64 opg) ∧ w'.cell? ⟨N0, 6, none⟩ = some (.int .i64 oli) ∧ w'.cell? ⟨N0, 7, none⟩ = some (.slice O ocu.length oc) from fun w' hX => by rw [← hbo.out] at hX; exact row8_cells hX)
  have hYC := Aside0.mk (show ∀ w' : World, w'.heap[C0]? = some bc → w'.cell? ⟨C0, 0, none⟩ = some (.slice I i j) ∧ w'.cell? ⟨C0, 1, none⟩ = some (.int .i64 ge) ∧ w'.cell? ⟨C0, 2, none⟩ = some (.int .i64 ph) ∧ w'.cell? ⟨C0, 3, none⟩ = some (.int .i64 tg) ∧ w'.cell? ⟨C0, 4, none⟩ = some (.int .i64 tx) ∧ w'.cell? ⟨C0, 5, none⟩ = some (.int .i64 rt) ∧ w'.cell? ⟨C0, 6, none⟩ = some (.int .i64 pg) ∧ w'.cell? ⟨C0, 7, none⟩ = some (.int .i64 li) ∧ w'.cell? ⟨C0, 8, none⟩ = some (.slice A' cu.length c') ∧ w'.cell? ⟨C0, 9, none⟩ = some (.int .i64 fu) ∧ w'.cell? ⟨C0, 10, none⟩ = some (.slice K kn kc) from fun w' hX => by rw [← hbc.out] at hX; exact row11_cells hX)
  have hrp := HRP.out
  rw [← hbp.out] at hrp
  have p0 := cell_ext (show w1.cell? ⟨Q0, 0, none⟩ = some (.slice A n c) by rw [cell_of_row _ _ _ _ _ _ hrp]; rfl)
  have p1 := cell_ext (show w1.cell? ⟨Q0, 1, none⟩ = some (.slice B q k) by rw [cell_of_row _ _ _ _ _ _ hrp]; rfl)
  clear hrp
  refine wp_region_ext (by kernel_rfl) (by kernel_rfl) ?_
  repeat (go_big_quiet_step (fail))
  refine wpQuiet_nil ?_
  rintro w' ⟨kx, rfl⟩
  have HT1 := Aside0.mk (HT.out.step kx.bel)
  obtain ⟨w2, hw2⟩ : ∃ X, kx.w = X := ⟨_, rfl⟩
  rw [hw2] at HT1 ⊢
  clear p0 p1 hw2 hbo hbp hbc HRP
  obtain ⟨x0, x1, x2, x3, x4, x5, x6, x7⟩ := hYO.out _ HT1.out.r0
  obtain ⟨y0, y1, y2, y3, y4, y5, y6, y7, y8, y9, y10⟩ := hYC.out _ HT1.out.r2
  obtain ⟨t2, ht2⟩ : ∃ x, IntKind.i64.wrap (otx + 1) = x := ⟨_, rfl⟩
  have x3' := cell_below ((Below.refl _ w2).alloc (Nat.le_refl _) (Obj.cells #[.int .i64 ge, .int .i64 ph, .int .i64 tg, .int .i64 tx, .int .i64 rt, .int .i64 pg, .int .i64 li, .slice A' cu.length c'] 24)) x3
  go_upto_region 4 with fail
  clear x3'
  obtain ⟨bm, hbm⟩ : ∃ b : Obj, Obj.cells #[.int .i64 ge, .int .i64 ph, .int .i64 tg, .int .i64 t2, .int .i64 rt, .int .i64 pg, .int .i64 li, .slice A' cu.length c'] 24 = b := ⟨_, rfl⟩
  rw [hbm]
  have hB3 := (Below.refl _ w2).alloc (Nat.le_refl _) bm
  have hT3 := HT1.out.step hB3
  have HT3 := Aside0.mk (show TA W W A n c hs l B q k js more O ocu oc A' cu c' K kn kc ks N0 w2.heap.size C0 N0 bo bm bc bo (w2.alloc bm) from ⟨hT3.bel, hT3.rl, hT3.hs, hT3.rv, hT3.js, hT3.co, hT3.cm, hT3.kb, hT3.kf, hT3.r0, heap_alloc_new w2 bm, hT3.r2, hT3.r3⟩)
  obtain ⟨w3, hw3⟩ : ∃ X, w2.alloc bm = X := ⟨_, rfl⟩
  obtain ⟨M0, hM0⟩ : ∃ X, w2.heap.size = X := ⟨_, rfl⟩
  rw [hw3, hM0] at HT3
  rw [hw3, hM0]
  have hYM := Aside0.mk (show ∀ w' : World, w'.heap[M0]? = some bm → w'.cell? ⟨M0, 0, none⟩ = some (.int .i64 ge) ∧ w'.cell? ⟨M0, 1, none⟩ = some (.int .i64 ph) ∧ w'.cell? ⟨M0, 2, none⟩ = some (.int .i64 tg) ∧ w'.cell? ⟨M0, 3, none⟩ = some (.int .i64 t2) ∧ w'.cell? ⟨M0, 4, none⟩ = some (.int .i64 rt) ∧ w'.cell? ⟨M0, 5, none⟩ = some (.int .i64 pg) ∧ w'.cell? ⟨M0, 6, none⟩ = some (.int .i64 li) ∧ w'.cell? ⟨M0, 7, none⟩ = some (.slice A' cu.length c') from fun w' hX => by rw [← hbm] at hX; exact row8_cells hX)
  clear hB3 hT3 hw3 hM0 hbm x0 x1 x2 x3 x4 x5 x6 x7 y0 y1 y2 y3 y4 y5 y6 y7 y8 y9 y10
  have HT2 := Aside0.mk ht2
  clear ht2
  obtain ⟨b1, hb1⟩ : ∃ b, fewB l ⟨ge, ph, tg, t2, rt, pg, li, cu⟩ = b := ⟨_, rfl⟩
  obtain ⟨b2, hb2⟩ : ∃ b, fewB more ⟨ge, ph, tg, t2, rt, pg, li, cu⟩ = b := ⟨_, rfl⟩
  obtain ⟨b3, hb3⟩ : ∃ b, fewB [] ⟨oge, oph, otg, otx, ort, opg, oli, ocu⟩ = b := ⟨_, rfl⟩
  obtain ⟨b4, hb4⟩ : ∃ b, prgB l ⟨ge, ph, tg, t2, rt, pg, li, cu⟩ = b := ⟨_, rfl⟩
  obtain ⟨b5, hb5⟩ : ∃ b, prgB [] ⟨oge, oph, otg, otx, ort, opg, oli, ocu⟩ = b := ⟨_, rfl⟩
  replace hb1 := Aside0.mk hb1
  replace hb2 := Aside0.mk hb2
  replace hb3 := Aside0.mk hb3
  replace hb4 := Aside0.mk hb4
  replace hb5 := Aside0.mk hb5
  have F1 := Aside0.mk (show b1 = true → n ≤ 12 ∧ l.length ≤ 12 ∧ totB l ≤ 5120 ∧ pg ≤ 40 from fun e => by
    obtain ⟨f1, f2, f3, f4⟩ := of_decide_eq_true (hb1.out.trans e)
    have := HL.out
    have f3 : pg ≤ 40 := f3
    omega)
  have F2 := Aside0.mk (show b2 = true → q ≤ 12 ∧ more.length ≤ 12 ∧ totB more ≤ 5120 from fun e => by
    obtain ⟨f1, f2, f3, f4⟩ := of_decide_eq_true (hb2.out.trans e)
    have := HL.out
    omega)
  have F3 := Aside0.mk (show b3 = true → opg ≤ 40 from fun e => by
    obtain ⟨f1, f2, f3, f4⟩ := of_decide_eq_true (hb3.out.trans e)
    exact f3)
  obtain ⟨x0, x1, x2, x3, x4, x5, x6, x7⟩ := hYO.out _ HT3.out.r0
  obtain ⟨y0, y1, y2, y3, y4, y5, y6, y7, y8, y9, y10⟩ := hYC.out _ HT3.out.r2
  obtain ⟨z0, z1, z2, z3, z4, z5, z6, z7⟩ := hYM.out _ HT3.out.r1
  cases b1 with
  | false =>
    go_wp2_with (first
      | (go_at_call 11; with_reducible refine (alive12_any w4).mono ?_; rintro e we ⟨rfl, hB⟩; (have HE := Aside0.mk (H4.out.step hB)); clear hB)
      | (go_at_call 9; refine (few12_any A n c hs l ⟨ge, ph, tg, t2, rt, pg, li, cu⟩ A' c' w3 HT3.out.rl HT3.out.hs.hl hcl.out).mono ?_; rintro e w4 ⟨rfl, hB⟩; rw [hb1.out]; (have H4 := Aside0.mk (HT3.out.step hB)); clear hB; clear x0 x1 x2 x3 x4 x5 x6 x7 y0 y1 y2 y3 y4 y5 y6 y7 y8 y9 y10 z0 z1 z2 z3 z4 z5 z6 z7; (obtain ⟨x0, x1, x2, x3, x4, x5, x6, x7⟩ := hYO.out _ H4.out.r0); (obtain ⟨y0, y1, y2, y3, y4, y5, y6, y7, y8, y9, y10⟩ := hYC.out _ H4.out.r2); (obtain ⟨z0, z1, z2, z3, z4, z5, z6, z7⟩ := hYM.out _ H4.out.r1))
      | fail)
    go_ret
    exact ⟨rfl, HE.out.bel⟩
  | true =>
    replace F1 := Aside0.mk (F1.out rfl)
    cases b2 with
    | false =>
      go_wp2_with (first
        | (go_at_call 11; with_reducible refine (alive12_any w5).mono ?_; rintro e we ⟨rfl, hB⟩; (have HE := Aside0.mk (H5.out.step hB)); clear hB)
        | (go_at_call 9; refine (few12_any B q k js more ⟨ge, ph, tg, t2, rt, pg, li, cu⟩ A' c' w4 H4.out.rv H4.out.js.hl hcl.out).mono ?_; rintro e w5 ⟨rfl, hB⟩; rw [hb2.out]; (have H5 := Aside0.mk (H4.out.step hB)); clear hB; clear x0 x1 x2 x3 x4 x5 x6 x7 y0 y1 y2 y3 y4 y5 y6 y7 y8 y9 y10 z0 z1 z2 z3 z4 z5 z6 z7; (obtain ⟨x0, x1, x2, x3, x4, x5, x6, x7⟩ := hYO.out _ H5.out.r0); (obtain ⟨y0, y1, y2, y3, y4, y5, y6, y7, y8, y9, y10⟩ := hYC.out _ H5.out.r2); (obtain ⟨z0, z1, z2, z3, z4, z5, z6, z7⟩ := hYM.out _ H5.out.r1))
        | (go_at_call 9; refine (few12_any A n c hs l ⟨ge, ph, tg, t2, rt, pg, li, cu⟩ A' c' w3 HT3.out.rl HT3.out.hs.hl hcl.out).mono ?_; rintro e w4 ⟨rfl, hB⟩; rw [hb1.out]; (have H4 := Aside0.mk (HT3.out.step hB)); clear hB; clear x0 x1 x2 x3 x4 x5 x6 x7 y0 y1 y2 y3 y4 y5 y6 y7 y8 y9 y10 z0 z1 z2 z3 z4 z5 z6 z7; (obtain ⟨x0, x1, x2, x3, x4, x5, x6, x7⟩ := hYO.out _ H4.out.r0); (obtain ⟨y0, y1, y2, y3, y4, y5, y6, y7, y8, y9, y10⟩ := hYC.out _ H4.out.r2); (obtain ⟨z0, z1, z2, z3, z4, z5, z6, z7⟩ := hYM.out _ H4.out.r1))
        | fail)
      go_ret
      exact ⟨rfl, HE.out.bel⟩
    | true =>
      replace F2 := Aside0.mk (F2.out rfl)
      cases b3 with
      | false =>
        go_wp2_with (first
          | (go_at_call 11; with_reducible refine (alive12_any w6).mono ?_; rintro e we ⟨rfl, hB⟩; (have HE := Aside0.mk (H6.out.step hB)); clear hB)
          | (go_at_call 9; refine (few12_any none 0 0 [] [] ⟨oge, oph, otg, otx, ort, opg, oli, ocu⟩ O oc w5 (Rl.nil w5) (Hs.nil W [] w5).hl hol.out).mono ?_; rintro e w6 ⟨rfl, hB⟩; rw [hb3.out]; (have H6 := Aside0.mk (H5.out.step hB)); clear hB; clear x0 x1 x2 x3 x4 x5 x6 x7 y0 y1 y2 y3 y4 y5 y6 y7 y8 y9 y10 z0 z1 z2 z3 z4 z5 z6 z7; (obtain ⟨x0, x1, x2, x3, x4, x5, x6, x7⟩ := hYO.out _ H6.out.r0); (obtain ⟨y0, y1, y2, y3, y4, y5, y6, y7, y8, y9, y10⟩ := hYC.out _ H6.out.r2); (obtain ⟨z0, z1, z2, z3, z4, z5, z6, z7⟩ := hYM.out _ H6.out.r1))
          | (go_at_call 9; refine (few12_any B q k js more ⟨ge, ph, tg, t2, rt, pg, li, cu⟩ A' c' w4 H4.out.rv H4.out.js.hl hcl.out).mono ?_; rintro e w5 ⟨rfl, hB⟩; rw [hb2.out]; (have H5 := Aside0.mk (H4.out.step hB)); clear hB; clear x0 x1 x2 x3 x4 x5 x6 x7 y0 y1 y2 y3 y4 y5 y6 y7 y8 y9 y10 z0 z1 z2 z3 z4 z5 z6 z7; (obtain ⟨x0, x1, x2, x3, x4, x5, x6, x7⟩ := hYO.out _ H5.out.r0); (obtain ⟨y0, y1, y2, y3, y4, y5, y6, y7, y8, y9, y10⟩ := hYC.out _ H5.out.r2); (obtain ⟨z0, z1, z2, z3, z4, z5, z6, z7⟩ := hYM.out _ H5.out.r1))
          | (go_at_call 9; refine (few12_any A n c hs l ⟨ge, ph, tg, t2, rt, pg, li, cu⟩ A' c' w3 HT3.out.rl HT3.out.hs.hl hcl.out).mono ?_; rintro e w4 ⟨rfl, hB⟩; rw [hb1.out]; (have H4 := Aside0.mk (HT3.out.step hB)); clear hB; clear x0 x1 x2 x3 x4 x5 x6 x7 y0 y1 y2 y3 y4 y5 y6 y7 y8 y9 y10 z0 z1 z2 z3 z4 z5 z6 z7; (obtain ⟨x0, x1, x2, x3, x4, x5, x6, x7⟩ := hYO.out _ H4.out.r0); (obtain ⟨y0, y1, y2, y3, y4, y5, y6, y7, y8, y9, y10⟩ := hYC.out _ H4.out.r2); (obtain ⟨z0, z1, z2, z3, z4, z5, z6, z7⟩ := hYM.out _ H4.out.r1))
          | fail)
        go_ret
        exact ⟨rfl, HE.out.bel⟩
      | true =>
        replace F3 := Aside0.mk (F3.out rfl)
        by_cases q1 : otx < 2
        · have gq1 : decide (otx < 2) = true := decide_eq_true q1
          clear q1
          go_wp2_with (first
            | (go_at_call 11; with_reducible refine (alive12_any w6).mono ?_; rintro e we ⟨rfl, hB⟩; (have HE := Aside0.mk (H6.out.step hB)); clear hB)
            | (go_at_call 9; refine (few12_any none 0 0 [] [] ⟨oge, oph, otg, otx, ort, opg, oli, ocu⟩ O oc w5 (Rl.nil w5) (Hs.nil W [] w5).hl hol.out).mono ?_; rintro e w6 ⟨rfl, hB⟩; rw [hb3.out]; (have H6 := Aside0.mk (H5.out.step hB)); clear hB; clear x0 x1 x2 x3 x4 x5 x6 x7 y0 y1 y2 y3 y4 y5 y6 y7 y8 y9 y10 z0 z1 z2 z3 z4 z5 z6 z7; (obtain ⟨x0, x1, x2, x3, x4, x5, x6, x7⟩ := hYO.out _ H6.out.r0); (obtain ⟨y0, y1, y2, y3, y4, y5, y6, y7, y8, y9, y10⟩ := hYC.out _ H6.out.r2); (obtain ⟨z0, z1, z2, z3, z4, z5, z6, z7⟩ := hYM.out _ H6.out.r1))
            | (go_at_call 9; refine (few12_any B q k js more ⟨ge, ph, tg, t2, rt, pg, li, cu⟩ A' c' w4 H4.out.rv H4.out.js.hl hcl.out).mono ?_; rintro e w5 ⟨rfl, hB⟩; rw [hb2.out]; (have H5 := Aside0.mk (H4.out.step hB)); clear hB; clear x0 x1 x2 x3 x4 x5 x6 x7 y0 y1 y2 y3 y4 y5 y6 y7 y8 y9 y10 z0 z1 z2 z3 z4 z5 z6 z7; (obtain ⟨x0, x1, x2, x3, x4, x5, x6, x7⟩ := hYO.out _ H5.out.r0); (obtain ⟨y0, y1, y2, y3, y4, y5, y6, y7, y8, y9, y10⟩ := hYC.out _ H5.out.r2); (obtain ⟨z0, z1, z2, z3, z4, z5, z6, z7⟩ := hYM.out _ H5.out.r1))
            | (go_at_call 9; refine (few12_any A n c hs l ⟨ge, ph, tg, t2, rt, pg, li, cu⟩ A' c' w3 HT3.out.rl HT3.out.hs.hl hcl.out).mono ?_; rintro e w4 ⟨rfl, hB⟩; rw [hb1.out]; (have H4 := Aside0.mk (HT3.out.step hB)); clear hB; clear x0 x1 x2 x3 x4 x5 x6 x7 y0 y1 y2 y3 y4 y5 y6 y7 y8 y9 y10 z0 z1 z2 z3 z4 z5 z6 z7; (obtain ⟨x0, x1, x2, x3, x4, x5, x6, x7⟩ := hYO.out _ H4.out.r0); (obtain ⟨y0, y1, y2, y3, y4, y5, y6, y7, y8, y9, y10⟩ := hYC.out _ H4.out.r2); (obtain ⟨z0, z1, z2, z3, z4, z5, z6, z7⟩ := hYM.out _ H4.out.r1))
            | fail)
          go_ret
          exact ⟨rfl, HE.out.bel⟩
        have gq1 : decide (otx < 2) = false := decide_eq_false q1
        by_cases q2 : (200 : Int) < (kn : Int)
        · have gq2 : decide ((200 : Int) < (kn : Int)) = true := decide_eq_true q2
          clear q2
          go_wp2_with (first
            | (go_at_call 11; with_reducible refine (alive12_any w6).mono ?_; rintro e we ⟨rfl, hB⟩; (have HE := Aside0.mk (H6.out.step hB)); clear hB)
            | (go_at_call 9; refine (few12_any none 0 0 [] [] ⟨oge, oph, otg, otx, ort, opg, oli, ocu⟩ O oc w5 (Rl.nil w5) (Hs.nil W [] w5).hl hol.out).mono ?_; rintro e w6 ⟨rfl, hB⟩; rw [hb3.out]; (have H6 := Aside0.mk (H5.out.step hB)); clear hB; clear x0 x1 x2 x3 x4 x5 x6 x7 y0 y1 y2 y3 y4 y5 y6 y7 y8 y9 y10 z0 z1 z2 z3 z4 z5 z6 z7; (obtain ⟨x0, x1, x2, x3, x4, x5, x6, x7⟩ := hYO.out _ H6.out.r0); (obtain ⟨y0, y1, y2, y3, y4, y5, y6, y7, y8, y9, y10⟩ := hYC.out _ H6.out.r2); (obtain ⟨z0, z1, z2, z3, z4, z5, z6, z7⟩ := hYM.out _ H6.out.r1))
            | (go_at_call 9; refine (few12_any B q k js more ⟨ge, ph, tg, t2, rt, pg, li, cu⟩ A' c' w4 H4.out.rv H4.out.js.hl hcl.out).mono ?_; rintro e w5 ⟨rfl, hB⟩; rw [hb2.out]; (have H5 := Aside0.mk (H4.out.step hB)); clear hB; clear x0 x1 x2 x3 x4 x5 x6 x7 y0 y1 y2 y3 y4 y5 y6 y7 y8 y9 y10 z0 z1 z2 z3 z4 z5 z6 z7; (obtain ⟨x0, x1, x2, x3, x4, x5, x6, x7⟩ := hYO.out _ H5.out.r0); (obtain ⟨y0, y1, y2, y3, y4, y5, y6, y7, y8, y9, y10⟩ := hYC.out _ H5.out.r2); (obtain ⟨z0, z1, z2, z3, z4, z5, z6, z7⟩ := hYM.out _ H5.out.r1))
            | (go_at_call 9; refine (few12_any A n c hs l ⟨ge, ph, tg, t2, rt, pg, li, cu⟩ A' c' w3 HT3.out.rl HT3.out.hs.hl hcl.out).mono ?_; rintro e w4 ⟨rfl, hB⟩; rw [hb1.out]; (have H4 := Aside0.mk (HT3.out.step hB)); clear hB; clear x0 x1 x2 x3 x4 x5 x6 x7 y0 y1 y2 y3 y4 y5 y6 y7 y8 y9 y10 z0 z1 z2 z3 z4 z5 z6 z7; (obtain ⟨x0, x1, x2, x3, x4, x5, x6, x7⟩ := hYO.out _ H4.out.r0); (obtain ⟨y0, y1, y2, y3, y4, y5, y6, y7, y8, y9, y10⟩ := hYC.out _ H4.out.r2); (obtain ⟨z0, z1, z2, z3, z4, z5, z6, z7⟩ := hYM.out _ H4.out.r1))
            | fail)
          go_ret
          exact ⟨rfl, HE.out.bel⟩
        have gq2 : decide ((200 : Int) < (kn : Int)) = false := decide_eq_false q2
        by_cases q3 : 1000 < fu
        · have gq3 : decide (1000 < fu) = true := decide_eq_true q3
          clear q3
          go_wp2_with (first
            | (go_at_call 11; with_reducible refine (alive12_any w6).mono ?_; rintro e we ⟨rfl, hB⟩; (have HE := Aside0.mk (H6.out.step hB)); clear hB)
            | (go_at_call 9; refine (few12_any none 0 0 [] [] ⟨oge, oph, otg, otx, ort, opg, oli, ocu⟩ O oc w5 (Rl.nil w5) (Hs.nil W [] w5).hl hol.out).mono ?_; rintro e w6 ⟨rfl, hB⟩; rw [hb3.out]; (have H6 := Aside0.mk (H5.out.step hB)); clear hB; clear x0 x1 x2 x3 x4 x5 x6 x7 y0 y1 y2 y3 y4 y5 y6 y7 y8 y9 y10 z0 z1 z2 z3 z4 z5 z6 z7; (obtain ⟨x0, x1, x2, x3, x4, x5, x6, x7⟩ := hYO.out _ H6.out.r0); (obtain ⟨y0, y1, y2, y3, y4, y5, y6, y7, y8, y9, y10⟩ := hYC.out _ H6.out.r2); (obtain ⟨z0, z1, z2, z3, z4, z5, z6, z7⟩ := hYM.out _ H6.out.r1))
            | (go_at_call 9; refine (few12_any B q k js more ⟨ge, ph, tg, t2, rt, pg, li, cu⟩ A' c' w4 H4.out.rv H4.out.js.hl hcl.out).mono ?_; rintro e w5 ⟨rfl, hB⟩; rw [hb2.out]; (have H5 := Aside0.mk (H4.out.step hB)); clear hB; clear x0 x1 x2 x3 x4 x5 x6 x7 y0 y1 y2 y3 y4 y5 y6 y7 y8 y9 y10 z0 z1 z2 z3 z4 z5 z6 z7; (obtain ⟨x0, x1, x2, x3, x4, x5, x6, x7⟩ := hYO.out _ H5.out.r0); (obtain ⟨y0, y1, y2, y3, y4, y5, y6, y7, y8, y9, y10⟩ := hYC.out _ H5.out.r2); (obtain ⟨z0, z1, z2, z3, z4, z5, z6, z7⟩ := hYM.out _ H5.out.r1))
            | (go_at_call 9; refine (few12_any A n c hs l ⟨ge, ph, tg, t2, rt, pg, li, cu⟩ A' c' w3 HT3.out.rl HT3.out.hs.hl hcl.out).mono ?_; rintro e w4 ⟨rfl, hB⟩; rw [hb1.out]; (have H4 := Aside0.mk (HT3.out.step hB)); clear hB; clear x0 x1 x2 x3 x4 x5 x6 x7 y0 y1 y2 y3 y4 y5 y6 y7 y8 y9 y10 z0 z1 z2 z3 z4 z5 z6 z7; (obtain ⟨x0, x1, x2, x3, x4, x5, x6, x7⟩ := hYO.out _ H4.out.r0); (obtain ⟨y0, y1, y2, y3, y4, y5, y6, y7, y8, y9, y10⟩ := hYC.out _ H4.out.r2); (obtain ⟨z0, z1, z2, z3, z4, z5, z6, z7⟩ := hYM.out _ H4.out.r1))
            | fail)
          go_ret
          exact ⟨rfl, HE.out.bel⟩
        have gq3 : decide (1000 < fu) = false := decide_eq_false q3
        have HQ := Aside0.mk (show 2 ≤ otx ∧ kn ≤ 200 ∧ fu ≤ 1000 by omega)
        clear q1 q2 q3
        cases b4 with
        | false =>
          go_wp2_with (first
            | (go_at_call 11; with_reducible refine (alive12_any w7).mono ?_; rintro e we ⟨rfl, hB⟩; (have HE := Aside0.mk (H7.out.step hB)); clear hB)
            | (go_at_call 10; refine (rpright_any A n c hs l ⟨ge, ph, tg, t2, rt, pg, li, cu⟩ A' c' w6 (H6.out.rl.rc (by have := F1.out; omega)) H6.out.rl.len H6.out.hs.hl hcl.out).mono ?_; rintro e w7 ⟨rfl, hB⟩; rw [hb4.out]; (have H7 := Aside0.mk (H6.out.step hB)); clear hB; clear x0 x1 x2 x3 x4 x5 x6 x7 y0 y1 y2 y3 y4 y5 y6 y7 y8 y9 y10 z0 z1 z2 z3 z4 z5 z6 z7; (obtain ⟨x0, x1, x2, x3, x4, x5, x6, x7⟩ := hYO.out _ H7.out.r0); (obtain ⟨y0, y1, y2, y3, y4, y5, y6, y7, y8, y9, y10⟩ := hYC.out _ H7.out.r2); (obtain ⟨z0, z1, z2, z3, z4, z5, z6, z7⟩ := hYM.out _ H7.out.r1))
            | (go_at_call 9; refine (few12_any none 0 0 [] [] ⟨oge, oph, otg, otx, ort, opg, oli, ocu⟩ O oc w5 (Rl.nil w5) (Hs.nil W [] w5).hl hol.out).mono ?_; rintro e w6 ⟨rfl, hB⟩; rw [hb3.out]; (have H6 := Aside0.mk (H5.out.step hB)); clear hB; clear x0 x1 x2 x3 x4 x5 x6 x7 y0 y1 y2 y3 y4 y5 y6 y7 y8 y9 y10 z0 z1 z2 z3 z4 z5 z6 z7; (obtain ⟨x0, x1, x2, x3, x4, x5, x6, x7⟩ := hYO.out _ H6.out.r0); (obtain ⟨y0, y1, y2, y3, y4, y5, y6, y7, y8, y9, y10⟩ := hYC.out _ H6.out.r2); (obtain ⟨z0, z1, z2, z3, z4, z5, z6, z7⟩ := hYM.out _ H6.out.r1))
            | (go_at_call 9; refine (few12_any B q k js more ⟨ge, ph, tg, t2, rt, pg, li, cu⟩ A' c' w4 H4.out.rv H4.out.js.hl hcl.out).mono ?_; rintro e w5 ⟨rfl, hB⟩; rw [hb2.out]; (have H5 := Aside0.mk (H4.out.step hB)); clear hB; clear x0 x1 x2 x3 x4 x5 x6 x7 y0 y1 y2 y3 y4 y5 y6 y7 y8 y9 y10 z0 z1 z2 z3 z4 z5 z6 z7; (obtain ⟨x0, x1, x2, x3, x4, x5, x6, x7⟩ := hYO.out _ H5.out.r0); (obtain ⟨y0, y1, y2, y3, y4, y5, y6, y7, y8, y9, y10⟩ := hYC.out _ H5.out.r2); (obtain ⟨z0, z1, z2, z3, z4, z5, z6, z7⟩ := hYM.out _ H5.out.r1))
            | (go_at_call 9; refine (few12_any A n c hs l ⟨ge, ph, tg, t2, rt, pg, li, cu⟩ A' c' w3 HT3.out.rl HT3.out.hs.hl hcl.out).mono ?_; rintro e w4 ⟨rfl, hB⟩; rw [hb1.out]; (have H4 := Aside0.mk (HT3.out.step hB)); clear hB; clear x0 x1 x2 x3 x4 x5 x6 x7 y0 y1 y2 y3 y4 y5 y6 y7 y8 y9 y10 z0 z1 z2 z3 z4 z5 z6 z7; (obtain ⟨x0, x1, x2, x3, x4, x5, x6, x7⟩ := hYO.out _ H4.out.r0); (obtain ⟨y0, y1, y2, y3, y4, y5, y6, y7, y8, y9, y10⟩ := hYC.out _ H4.out.r2); (obtain ⟨z0, z1, z2, z3, z4, z5, z6, z7⟩ := hYM.out _ H4.out.r1))
            | fail)
          go_ret
          exact ⟨rfl, HE.out.bel⟩
        | true =>
          cases b5 with
          | false =>
            go_wp2_with (first
              | (go_at_call 11; with_reducible refine (alive12_any w8).mono ?_; rintro e we ⟨rfl, hB⟩; (have HE := Aside0.mk (H8.out.step hB)); clear hB)
              | (go_at_call 10; refine (rpright_any none 0 0 [] [] ⟨oge, oph, otg, otx, ort, opg, oli, ocu⟩ O oc w7 ((Rl.nil w7).rc (by omega)) rfl (Hs.nil W [] w7).hl hol.out).mono ?_; rintro e w8 ⟨rfl, hB⟩; rw [hb5.out]; (have H8 := Aside0.mk (H7.out.step hB)); clear hB; clear x0 x1 x2 x3 x4 x5 x6 x7 y0 y1 y2 y3 y4 y5 y6 y7 y8 y9 y10 z0 z1 z2 z3 z4 z5 z6 z7; (obtain ⟨x0, x1, x2, x3, x4, x5, x6, x7⟩ := hYO.out _ H8.out.r0); (obtain ⟨y0, y1, y2, y3, y4, y5, y6, y7, y8, y9, y10⟩ := hYC.out _ H8.out.r2); (obtain ⟨z0, z1, z2, z3, z4, z5, z6, z7⟩ := hYM.out _ H8.out.r1))
              | (go_at_call 10; refine (rpright_any A n c hs l ⟨ge, ph, tg, t2, rt, pg, li, cu⟩ A' c' w6 (H6.out.rl.rc (by have := F1.out; omega)) H6.out.rl.len H6.out.hs.hl hcl.out).mono ?_; rintro e w7 ⟨rfl, hB⟩; rw [hb4.out]; (have H7 := Aside0.mk (H6.out.step hB)); clear hB; clear x0 x1 x2 x3 x4 x5 x6 x7 y0 y1 y2 y3 y4 y5 y6 y7 y8 y9 y10 z0 z1 z2 z3 z4 z5 z6 z7; (obtain ⟨x0, x1, x2, x3, x4, x5, x6, x7⟩ := hYO.out _ H7.out.r0); (obtain ⟨y0, y1, y2, y3, y4, y5, y6, y7, y8, y9, y10⟩ := hYC.out _ H7.out.r2); (obtain ⟨z0, z1, z2, z3, z4, z5, z6, z7⟩ := hYM.out _ H7.out.r1))
              | (go_at_call 9; refine (few12_any none 0 0 [] [] ⟨oge, oph, otg, otx, ort, opg, oli, ocu⟩ O oc w5 (Rl.nil w5) (Hs.nil W [] w5).hl hol.out).mono ?_; rintro e w6 ⟨rfl, hB⟩; rw [hb3.out]; (have H6 := Aside0.mk (H5.out.step hB)); clear hB; clear x0 x1 x2 x3 x4 x5 x6 x7 y0 y1 y2 y3 y4 y5 y6 y7 y8 y9 y10 z0 z1 z2 z3 z4 z5 z6 z7; (obtain ⟨x0, x1, x2, x3, x4, x5, x6, x7⟩ := hYO.out _ H6.out.r0); (obtain ⟨y0, y1, y2, y3, y4, y5, y6, y7, y8, y9, y10⟩ := hYC.out _ H6.out.r2); (obtain ⟨z0, z1, z2, z3, z4, z5, z6, z7⟩ := hYM.out _ H6.out.r1))
              | (go_at_call 9; refine (few12_any B q k js more ⟨ge, ph, tg, t2, rt, pg, li, cu⟩ A' c' w4 H4.out.rv H4.out.js.hl hcl.out).mono ?_; rintro e w5 ⟨rfl, hB⟩; rw [hb2.out]; (have H5 := Aside0.mk (H4.out.step hB)); clear hB; clear x0 x1 x2 x3 x4 x5 x6 x7 y0 y1 y2 y3 y4 y5 y6 y7 y8 y9 y10 z0 z1 z2 z3 z4 z5 z6 z7; (obtain ⟨x0, x1, x2, x3, x4, x5, x6, x7⟩ := hYO.out _ H5.out.r0); (obtain ⟨y0, y1, y2, y3, y4, y5, y6, y7, y8, y9, y10⟩ := hYC.out _ H5.out.r2); (obtain ⟨z0, z1, z2, z3, z4, z5, z6, z7⟩ := hYM.out _ H5.out.r1))
              | (go_at_call 9; refine (few12_any A n c hs l ⟨ge, ph, tg, t2, rt, pg, li, cu⟩ A' c' w3 HT3.out.rl HT3.out.hs.hl hcl.out).mono ?_; rintro e w4 ⟨rfl, hB⟩; rw [hb1.out]; (have H4 := Aside0.mk (HT3.out.step hB)); clear hB; clear x0 x1 x2 x3 x4 x5 x6 x7 y0 y1 y2 y3 y4 y5 y6 y7 y8 y9 y10 z0 z1 z2 z3 z4 z5 z6 z7; (obtain ⟨x0, x1, x2, x3, x4, x5, x6, x7⟩ := hYO.out _ H4.out.r0); (obtain ⟨y0, y1, y2, y3, y4, y5, y6, y7, y8, y9, y10⟩ := hYC.out _ H4.out.r2); (obtain ⟨z0, z1, z2, z3, z4, z5, z6, z7⟩ := hYM.out _ H4.out.r1))
              | fail)
            go_ret
            exact ⟨rfl, HE.out.bel⟩
          | true =>
            go_upto_region 6 with (first
              | (go_at_call 10; refine (rpright_any none 0 0 [] [] ⟨oge, oph, otg, otx, ort, opg, oli, ocu⟩ O oc w7 ((Rl.nil w7).rc (by omega)) rfl (Hs.nil W [] w7).hl hol.out).mono ?_; rintro e w8 ⟨rfl, hB⟩; rw [hb5.out]; (have H8 := Aside0.mk (H7.out.step hB)); clear hB; clear x0 x1 x2 x3 x4 x5 x6 x7 y0 y1 y2 y3 y4 y5 y6 y7 y8 y9 y10 z0 z1 z2 z3 z4 z5 z6 z7; (obtain ⟨x0, x1, x2, x3, x4, x5, x6, x7⟩ := hYO.out _ H8.out.r0); (obtain ⟨y0, y1, y2, y3, y4, y5, y6, y7, y8, y9, y10⟩ := hYC.out _ H8.out.r2); (obtain ⟨z0, z1, z2, z3, z4, z5, z6, z7⟩ := hYM.out _ H8.out.r1))
              | (go_at_call 10; refine (rpright_any A n c hs l ⟨ge, ph, tg, t2, rt, pg, li, cu⟩ A' c' w6 (H6.out.rl.rc (by have := F1.out; omega)) H6.out.rl.len H6.out.hs.hl hcl.out).mono ?_; rintro e w7 ⟨rfl, hB⟩; rw [hb4.out]; (have H7 := Aside0.mk (H6.out.step hB)); clear hB; clear x0 x1 x2 x3 x4 x5 x6 x7 y0 y1 y2 y3 y4 y5 y6 y7 y8 y9 y10 z0 z1 z2 z3 z4 z5 z6 z7; (obtain ⟨x0, x1, x2, x3, x4, x5, x6, x7⟩ := hYO.out _ H7.out.r0); (obtain ⟨y0, y1, y2, y3, y4, y5, y6, y7, y8, y9, y10⟩ := hYC.out _ H7.out.r2); (obtain ⟨z0, z1, z2, z3, z4, z5, z6, z7⟩ := hYM.out _ H7.out.r1))
              | (go_at_call 9; refine (few12_any none 0 0 [] [] ⟨oge, oph, otg, otx, ort, opg, oli, ocu⟩ O oc w5 (Rl.nil w5) (Hs.nil W [] w5).hl hol.out).mono ?_; rintro e w6 ⟨rfl, hB⟩; rw [hb3.out]; (have H6 := Aside0.mk (H5.out.step hB)); clear hB; clear x0 x1 x2 x3 x4 x5 x6 x7 y0 y1 y2 y3 y4 y5 y6 y7 y8 y9 y10 z0 z1 z2 z3 z4 z5 z6 z7; (obtain ⟨x0, x1, x2, x3, x4, x5, x6, x7⟩ := hYO.out _ H6.out.r0); (obtain ⟨y0, y1, y2, y3, y4, y5, y6, y7, y8, y9, y10⟩ := hYC.out _ H6.out.r2); (obtain ⟨z0, z1, z2, z3, z4, z5, z6, z7⟩ := hYM.out _ H6.out.r1))
              | (go_at_call 9; refine (few12_any B q k js more ⟨ge, ph, tg, t2, rt, pg, li, cu⟩ A' c' w4 H4.out.rv H4.out.js.hl hcl.out).mono ?_; rintro e w5 ⟨rfl, hB⟩; rw [hb2.out]; (have H5 := Aside0.mk (H4.out.step hB)); clear hB; clear x0 x1 x2 x3 x4 x5 x6 x7 y0 y1 y2 y3 y4 y5 y6 y7 y8 y9 y10 z0 z1 z2 z3 z4 z5 z6 z7; (obtain ⟨x0, x1, x2, x3, x4, x5, x6, x7⟩ := hYO.out _ H5.out.r0); (obtain ⟨y0, y1, y2, y3, y4, y5, y6, y7, y8, y9, y10⟩ := hYC.out _ H5.out.r2); (obtain ⟨z0, z1, z2, z3, z4, z5, z6, z7⟩ := hYM.out _ H5.out.r1))
              | (go_at_call 9; refine (few12_any A n c hs l ⟨ge, ph, tg, t2, rt, pg, li, cu⟩ A' c' w3 HT3.out.rl HT3.out.hs.hl hcl.out).mono ?_; rintro e w4 ⟨rfl, hB⟩; rw [hb1.out]; (have H4 := Aside0.mk (HT3.out.step hB)); clear hB; clear x0 x1 x2 x3 x4 x5 x6 x7 y0 y1 y2 y3 y4 y5 y6 y7 y8 y9 y10 z0 z1 z2 z3 z4 z5 z6 z7; (obtain ⟨x0, x1, x2, x3, x4, x5, x6, x7⟩ := hYO.out _ H4.out.r0); (obtain ⟨y0, y1, y2, y3, y4, y5, y6, y7, y8, y9, y10⟩ := hYC.out _ H4.out.r2); (obtain ⟨z0, z1, z2, z3, z4, z5, z6, z7⟩ := hYM.out _ H4.out.r1))
              | fail)
            clear gq1 gq2 gq3
            have z3' := cell_below ((Below.refl _ w8).alloc (Nat.le_refl _) (Obj.cells #[.int .i64 oge, .int .i64 oph, .int .i64 otg, .int .i64 otx, .int .i64 ort, .int .i64 opg, .int .i64 oli, .slice O ocu.length oc] 24)) z3
            go_upto_region 8 with fail
            clear z3'
            obtain ⟨bn, hbn⟩ : ∃ b : Obj, Obj.cells #[.int .i64 oge, .int .i64 oph, .int .i64 otg, .int .i64 t2, .int .i64 ort, .int .i64 opg, .int .i64 oli, .slice O ocu.length oc] 24 = b := ⟨_, rfl⟩
            rw [hbn]
            have hB9 := (Below.refl _ w8).alloc (Nat.le_refl _) bn
            have hT9 := H8.out.step hB9
            have HT9 := Aside0.mk (show TA W W A n c hs l B q k js more O ocu oc A' cu c' K kn kc ks N0 M0 C0 w8.heap.size bo bm bc bn (w8.alloc bn) from ⟨hT9.bel, hT9.rl, hT9.hs, hT9.rv, hT9.js, hT9.co, hT9.cm, hT9.kb, hT9.kf, hT9.r0, hT9.r1, hT9.r2, heap_alloc_new w8 bn⟩)
            obtain ⟨w9, hw9⟩ : ∃ X, w8.alloc bn = X := ⟨_, rfl⟩
            obtain ⟨P0, hP0⟩ : ∃ X, w8.heap.size = X := ⟨_, rfl⟩
            rw [hw9, hP0] at HT9
            rw [hw9, hP0]
            have hYN := Aside0.mk (show ∀ w' : World, w'.heap[P0]? = some bn → w'.cell? ⟨P0, 0, none⟩ = some (.int .i64 oge) ∧ w'.cell? ⟨P0, 1, none⟩ = some (.int .i64 oph) ∧ w'.cell? ⟨P0, 2, none⟩ = some (.int .i64 otg) ∧ w'.cell? ⟨P0, 3, none⟩ = some (.int .i64 t2) ∧ w'.cell? ⟨P0, 4, none⟩ = some (.int .i64 ort) ∧ w'.cell? ⟨P0, 5, none⟩ = some (.int .i64 opg) ∧ w'.cell? ⟨P0, 6, none⟩ = some (.int .i64 oli) ∧ w'.cell? ⟨P0, 7, none⟩ = some (.slice O ocu.length oc) from fun w' hX => by rw [← hbn] at hX; exact row8_cells hX)
            clear hB9 hT9 hw9 hP0 hbn
            clear x0 x1 x2 x3 x4 x5 x6 x7 y0 y1 y2 y3 y4 y5 y6 y7 y8 y9 y10 z0 z1 z2 z3 z4 z5 z6 z7
            obtain ⟨b6, hb6⟩ : ∃ b, prgB more ⟨oge, oph, otg, t2, ort, opg, oli, ocu⟩ = b := ⟨_, rfl⟩
            replace hb6 := Aside0.mk hb6
            obtain ⟨v0, v1, v2, v3, v4, v5, v6, v7⟩ := hYN.out _ HT9.out.r3
            cases b6 with
            | false =>
              go_wp2_with (first
                | (go_at_call 11; with_reducible refine (alive12_any w10).mono ?_; rintro e we ⟨rfl, hB⟩; (have HE := Aside0.mk (H10.out.step hB)); clear hB)
                | (go_at_call 10; refine (rpright_any B q k js more ⟨oge, oph, otg, t2, ort, opg, oli, ocu⟩ O oc w9 (HT9.out.rv.rc (by have := F2.out; omega)) HT9.out.rv.len HT9.out.js.hl hol.out).mono ?_; rintro e w10 ⟨rfl, hB⟩; rw [hb6.out]; (have H10 := Aside0.mk (HT9.out.step hB)); clear hB; clear v0 v1 v2 v3 v4 v5 v6 v7)
                | fail)
              go_ret
              exact ⟨rfl, HE.out.bel⟩
            | true =>
              go_upto_region 10 with (go_at_call 10; refine (rpright_any B q k js more ⟨oge, oph, otg, t2, ort, opg, oli, ocu⟩ O oc w9 (HT9.out.rv.rc (by have := F2.out; omega)) HT9.out.rv.len HT9.out.js.hl hol.out).mono ?_; rintro e w10 ⟨rfl, hB⟩; rw [hb6.out]; (have H10 := Aside0.mk (HT9.out.step hB)); clear hB; clear v0 v1 v2 v3 v4 v5 v6 v7)
              obtain ⟨hpb1, hpb2⟩ : 3 ≤ opg ∧ t2 = otx + 1 := by
                have h := prgB_pg hb5.out
                have h1 : 3 ≤ opg := h.1
                have h2 : otx ≤ 2147483647 := h.2.2.2
                refine ⟨h1, ?_⟩
                rw [← HT2.out]
                exact IntWalk.i64_in _ (by have := HQ.out; omega)
              obtain ⟨fv, hfv⟩ : ∃ x, fu.tdiv 2 = x := ⟨_, rfl⟩
              have hfv2 : fv ≤ 1000 ∧ -9223372036854775808 ≤ fv := by have h1 := HQ.out; have h2 := HF.out; rw [← hfv, Int.tdiv_eq_ediv, show Int.sign 2 = 1 from rfl]; split <;> omega
              have iwq : IntKind.i64.wrap (fu.tdiv 2) = fv := by rw [hfv]; exact IntWalk.i64_in _ (by omega)
              obtain ⟨d1, d3, d5, e0, f0, hA⟩ := again_ok (old := ⟨oge, oph, otg, otx, ort, opg, oli, ocu⟩) (m := ⟨ge, ph, tg, t2, rt, pg, li, cu⟩) (n := ⟨oge, oph, otg, t2, ort, opg, oli, ocu⟩) hb5.out HQ.out.1 hpb2 hpb2 hb4.out hb6.out F3.out F1.out.2.2.2 F3.out fu fv ks ([true] ++ ks)
              have HA := Aside0.mk hA
              replace hfv := Aside0.mk hfv
              have HV := Aside0.mk hfv2
              replace iwq := Aside0.mk iwq
              replace hpb1 := Aside0.mk hpb1
              replace hpb2 := Aside0.mk hpb2
              have hBz : W.heap.size ≤ w10.heap.size := H10.out.bel.size
              have T10 := Aside0.mk (show TA W w10 A n c hs l B q k js more O ocu oc A' cu c' K kn kc ks N0 M0 C0 P0 bo bm bc bn w10 from H10.out.since hBz)
              clear hA hfv2 hBz
              go_upto_region 12 with (first
                | (go_at_call 12; refine (new_h (w0 := w10) 400 w10 (Below.refl _ _)).mono ?_; rintro e w11 ⟨g, rfl, hH, _⟩; (have H11 := Aside0.mk (show DH w10 g [] (newDV 400) w11 from hH)); clear hH)
                | (go_at_call 13; refine (pnew_h H11.out).mono ?_; rintro e w12 ⟨rfl, hH, _⟩; (obtain ⟨gp, hgp⟩ : ∃ x, w11.heap.size = x := ⟨_, rfl⟩); rw [hgp] at hH; rw [hgp]; (have H12 := Aside0.mk hH); clear hH hgp)
                | fail)
              have T12 := Aside0.mk (T10.out.step H12.out.bel)
              obtain ⟨x0, x1, x2, x3, x4, x5, x6, x7⟩ := hYO.out _ T12.out.r0
              go_upto_region 14 with (go_at_call 23; refine (format_h H12.out List.mem_cons_self none 0 0 [] [] ⟨oge, oph, otg, otx, ort, opg, oli, ocu⟩ O oc 0 0 ((Rl.nil w12).rc (by omega)) (Hs.nil _ _ _) rfl T12.out.co ((newDV_up 400).ab rfl (Int.le_refl 0) (Int.le_refl 0)) (by decide) (by decide) (by decide) (by have := F3.out; show opg ≤ 1000000; omega)).mono ?_; rintro e w13 ⟨rfl, hH⟩; rw [HA.out.fm] at hH ⊢; (have H13 := Aside0.mk (show DH w10 g [(gp, pgo g)] d1 w13 from hH)); clear hH)
              clear x0 x1 x2 x3 x4 x5 x6 x7
              have T13 := Aside0.mk (T10.out.step H13.out.bel)
              obtain ⟨y0, y1, y2, y3, y4, y5, y6, y7, y8, y9, y10⟩ := hYC.out _ T13.out.r2
              go_upto_region 15 with (go_at_call 21; refine (arm_h H13.out fu).mono ?_; rintro e w14 ⟨rfl, hH⟩; (have H14 := Aside0.mk hH); clear hH)
              clear y0 y1 y2 y3 y4 y5 y6 y7 y8 y9 y10
              obtain ⟨w14d, hw14d⟩ : ∃ X, w14.drew = X := ⟨_, rfl⟩
              have H14d := Aside0.mk (show DH w10 g [(gp, pgo g)] (armD d1 fu) w14d from by rw [← hw14d]; exact H14.out.step (below_drew (Below.refl _ _)))
              have TH14d := Aside0.mk (T10.out.step H14d.out.bel)
              have SH14d := Aside0.mk (hYM.out _ TH14d.out.r1)
              refine wp_region_M (fun j => decide (j < 4)) (fun w' => w'.cell? ⟨M0, 0, none⟩ = some (.int .i64 ge) ∧ w'.cell? ⟨M0, 1, none⟩ = some (.int .i64 ph) ∧ w'.cell? ⟨M0, 2, none⟩ = some (.int .i64 tg) ∧ w'.cell? ⟨M0, 3, none⟩ = some (.int .i64 t2) ∧ w'.cell? ⟨M0, 4, none⟩ = some (.int .i64 rt) ∧ w'.cell? ⟨M0, 5, none⟩ = some (.int .i64 pg) ∧ w'.cell? ⟨M0, 6, none⟩ = some (.int .i64 li) ∧ w'.cell? ⟨M0, 7, none⟩ = some (.slice A' cu.length c')) (by kernel_rfl) ?_
              rw [hw14d]
              clear hw14d
              refine wpAnyM_take (i := 0) (v := ?_) (by simp only [List.getElem?_toArray, List.getElem?_cons_succ, List.getElem?_cons_zero]; rfl) (by kernel_rfl) (by kernel_rfl) (by kernel_rfl) (by kernel_rfl) (by exact fun _ _ _ h => h) (Or.inl ⟨by rfl, ?_⟩) SH14d.out ?_
              rotate_left
              · (intro w' hSw; (try dsimp only at hSw); go_simp; try with_reducible rfl)
              try simp only [Act.put, List.setIfInBounds_toArray, List.set_cons_zero, List.set_cons_succ]
              refine wpAnyM_take (i := 1) (v := ?_) (by simp only [List.getElem?_toArray, List.getElem?_cons_succ, List.getElem?_cons_zero]; rfl) (by kernel_rfl) (by kernel_rfl) (by kernel_rfl) (by kernel_rfl) (by exact fun _ _ _ h => h) (Or.inl ⟨by rfl, ?_⟩) SH14d.out ?_
              rotate_left
              · (intro w' hSw; (try dsimp only at hSw); go_simp; try with_reducible rfl)
              try simp only [Act.put, List.setIfInBounds_toArray, List.set_cons_zero, List.set_cons_succ]
              refine wpAnyM_take (i := 3) (v := ?_) (by simp only [List.getElem?_toArray, List.getElem?_cons_succ, List.getElem?_cons_zero]; rfl) (by kernel_rfl) (by kernel_rfl) (by kernel_rfl) (by kernel_rfl) (by exact fun _ _ _ h => h) (Or.inl ⟨by rfl, ?_⟩) SH14d.out ?_
              rotate_left
              · (intro w' hSw; (try dsimp only at hSw); go_simp; try with_reducible rfl)
              try simp only [Act.put, List.setIfInBounds_toArray, List.set_cons_zero, List.set_cons_succ]
              refine wpAnyM_one (i := 2) (by kernel_rfl) (by simp only [List.getElem?_toArray, List.getElem?_cons_succ, List.getElem?_cons_zero]; rfl) ?_
              go_wp2_with (go_at_call 15; refine (wof_any A n c hs w14d (TH14d.out.rl.rc (by have := F1.out; have := F2.out; omega)) TH14d.out.rl.len).mono ?_; rintro e w14o ⟨Aw14o, cw14o, rfl, hO, hB⟩; (have H14o := Aside0.mk (And.intro (H14d.out.step hB) hO.rc)); clear hO hB)
              have TH14o := Aside0.mk (T10.out.step H14o.out.1.bel)
              refine ⟨hYM.out _ TH14o.out.r1, ?_⟩
              try simp only [Act.put, List.setIfInBounds_toArray, List.set_cons_zero, List.set_cons_succ]
              refine wpAnyM_one (i := 4) (by kernel_rfl) (by simp only [List.getElem?_toArray, List.getElem?_cons_succ, List.getElem?_cons_zero]; rfl) ?_
              go_wp2_with (go_at_call 14; refine (commit_h H14o.out.1 List.mem_cons_self Aw14o n cw14o hs l ⟨ge, ph, tg, t2, rt, pg, li, cu⟩ A' c' 0 3 H14o.out.2 (TH14o.out.hs.up (fun p hp => by cases hp)) TH14o.out.rl.len TH14o.out.cm (arm_ab (HA.out.u1.ab HA.out.r1 (by rw [HA.out.o1]; decide) (by rw [HA.out.o1]; exact Int.le_refl 3)) fu HQ.out.2.2) (by have := F1.out; have := F2.out; omega) (by have := F1.out; have := F2.out; omega) (by have := F1.out; have := F2.out; omega) (by have := F1.out; have := F3.out; first | (show pg ≤ 1000000; omega) | (show opg ≤ 1000000; omega))).mono ?_; rintro e w14c ⟨rfl, hH⟩; rw [← HA.out.c1]; (have H14c := Aside0.mk hH); clear hH)
              try simp only [Act.put, List.setIfInBounds_toArray, List.set_cons_zero, List.set_cons_succ]
              refine wpAnyM_take0 (i := 5) (v := ?_) (by simp only [List.getElem?_toArray, List.getElem?_cons_succ, List.getElem?_cons_zero]; rfl) (by kernel_rfl) (by kernel_rfl) (by kernel_rfl) (by rfl) (by exact fun _ _ _ h => h) (Or.inl ⟨by rfl, ?_⟩) ?_
              rotate_left
              · (intro w' _; go_simp; try with_reducible rfl)
              try simp only [Act.put, List.setIfInBounds_toArray, List.set_cons_zero, List.set_cons_succ]
              refine wpAnyM_done (by kernel_rfl) ?_ _
              have T15 := Aside0.mk (T10.out.step H14c.out.bel)
              obtain ⟨y0, y1, y2, y3, y4, y5, y6, y7, y8, y9, y10⟩ := hYC.out _ T15.out.r2
              go_upto_region 17 with (go_at_call 38; refine (crash_h H14c.out K kn kc ks T15.out.kb T15.out.kf.up).mono ?_; rintro e w16 ⟨rfl, hH⟩; rw [← HA.out.q3] at hH; (have H16 := Aside0.mk hH); clear hH)
              clear y0 y1 y2 y3 y4 y5 y6 y7 y8 y9 y10
              have T16 := Aside0.mk (T10.out.step H16.out.bel)
              by_cases qe : e0 = 0
              · have ge0 : (e0 == 0) = true := beq_iff_eq.2 qe
                clear qe
                go_wp2_with (first
                  | (go_at_call 11; with_reducible refine (alive12_any w16).mono ?_; rintro e we ⟨rfl, hB⟩; (have HE := Aside0.mk (T16.out.step hB)); clear hB)
                  | fail)
                go_ret
                exact ⟨rfl, HE.out.bel⟩
              have ge0 : (e0 == 0) = false := beq_eq_false_iff_ne.2 qe
              clear qe
              obtain ⟨y0, y1, y2, y3, y4, y5, y6, y7, y8, y9, y10⟩ := hYC.out _ T16.out.r2
              have iwq2 := iwq.out
              go_upto_region 20 with (go_at_call 21; refine (arm_h H16.out fv).mono ?_; rintro e w17 ⟨rfl, hH⟩; (have H17 := Aside0.mk hH); clear hH)
              clear iwq2 y0 y1 y2 y3 y4 y5 y6 y7 y8 y9 y10
              obtain ⟨w17d, hw17d⟩ : ∃ X, w17.drew = X := ⟨_, rfl⟩
              have H17d := Aside0.mk (show DH w10 g [(gp, pgo g)] (armD d3 fv) w17d from by rw [← hw17d]; exact H17.out.step (below_drew (Below.refl _ _)))
              have TH17d := Aside0.mk (T10.out.step H17d.out.bel)
              have SH17d := Aside0.mk (hYN.out _ TH17d.out.r3)
              refine wp_region_M (fun j => decide (j < 4)) (fun w' => w'.cell? ⟨P0, 0, none⟩ = some (.int .i64 oge) ∧ w'.cell? ⟨P0, 1, none⟩ = some (.int .i64 oph) ∧ w'.cell? ⟨P0, 2, none⟩ = some (.int .i64 otg) ∧ w'.cell? ⟨P0, 3, none⟩ = some (.int .i64 t2) ∧ w'.cell? ⟨P0, 4, none⟩ = some (.int .i64 ort) ∧ w'.cell? ⟨P0, 5, none⟩ = some (.int .i64 opg) ∧ w'.cell? ⟨P0, 6, none⟩ = some (.int .i64 oli) ∧ w'.cell? ⟨P0, 7, none⟩ = some (.slice O ocu.length oc)) (by kernel_rfl) ?_
              rw [hw17d]
              clear hw17d
              refine wpAnyM_take (i := 0) (v := ?_) (by simp only [List.getElem?_toArray, List.getElem?_cons_succ, List.getElem?_cons_zero]; rfl) (by kernel_rfl) (by kernel_rfl) (by kernel_rfl) (by kernel_rfl) (by exact fun _ _ _ h => h) (Or.inl ⟨by rfl, ?_⟩) SH17d.out ?_
              rotate_left
              · (intro w' hSw; (try dsimp only at hSw); go_simp; try with_reducible rfl)
              try simp only [Act.put, List.setIfInBounds_toArray, List.set_cons_zero, List.set_cons_succ]
              refine wpAnyM_take (i := 1) (v := ?_) (by simp only [List.getElem?_toArray, List.getElem?_cons_succ, List.getElem?_cons_zero]; rfl) (by kernel_rfl) (by kernel_rfl) (by kernel_rfl) (by kernel_rfl) (by exact fun _ _ _ h => h) (Or.inl ⟨by rfl, ?_⟩) SH17d.out ?_
              rotate_left
              · (intro w' hSw; (try dsimp only at hSw); go_simp; try with_reducible rfl)
              try simp only [Act.put, List.setIfInBounds_toArray, List.set_cons_zero, List.set_cons_succ]
              refine wpAnyM_take (i := 3) (v := ?_) (by simp only [List.getElem?_toArray, List.getElem?_cons_succ, List.getElem?_cons_zero]; rfl) (by kernel_rfl) (by kernel_rfl) (by kernel_rfl) (by kernel_rfl) (by exact fun _ _ _ h => h) (Or.inl ⟨by rfl, ?_⟩) SH17d.out ?_
              rotate_left
              · (intro w' hSw; (try dsimp only at hSw); go_simp; try with_reducible rfl)
              try simp only [Act.put, List.setIfInBounds_toArray, List.set_cons_zero, List.set_cons_succ]
              refine wpAnyM_one (i := 2) (by kernel_rfl) (by simp only [List.getElem?_toArray, List.getElem?_cons_succ, List.getElem?_cons_zero]; rfl) ?_
              go_wp2_with (go_at_call 15; refine (wof_any B q k js w17d (TH17d.out.rv.rc (by have := F1.out; have := F2.out; omega)) TH17d.out.rv.len).mono ?_; rintro e w17o ⟨Aw17o, cw17o, rfl, hO, hB⟩; (have H17o := Aside0.mk (And.intro (H17d.out.step hB) hO.rc)); clear hO hB)
              have TH17o := Aside0.mk (T10.out.step H17o.out.1.bel)
              refine ⟨hYN.out _ TH17o.out.r3, ?_⟩
              try simp only [Act.put, List.setIfInBounds_toArray, List.set_cons_zero, List.set_cons_succ]
              refine wpAnyM_one (i := 4) (by kernel_rfl) (by simp only [List.getElem?_toArray, List.getElem?_cons_succ, List.getElem?_cons_zero]; rfl) ?_
              go_wp2_with (go_at_call 14; refine (commit_h H17o.out.1 List.mem_cons_self Aw17o q cw17o js more ⟨oge, oph, otg, t2, ort, opg, oli, ocu⟩ O oc 0 (3 + (l.length : Int) + 4) H17o.out.2 (TH17o.out.js.up (fun p hp => by cases hp)) TH17o.out.rv.len TH17o.out.co (arm_ab (show AB d3 0 (3 + (l.length : Int) + 4) from by rw [HA.out.q3]; exact commit_ab (arm_ab (HA.out.u1.ab HA.out.r1 (by rw [HA.out.o1]; decide) (by rw [HA.out.o1]; exact Int.le_refl 3)) fu HQ.out.2.2) l ⟨ge, ph, tg, t2, rt, pg, li, cu⟩ ks) fv HV.out.1) (by have := F1.out; have := F2.out; omega) (by have := F1.out; have := F2.out; omega) (by have := F1.out; have := F2.out; omega) (by have := F1.out; have := F3.out; first | (show pg ≤ 1000000; omega) | (show opg ≤ 1000000; omega))).mono ?_; rintro e w17c ⟨rfl, hH⟩; rw [← HA.out.c2]; (have H17c := Aside0.mk hH); clear hH)
              try simp only [Act.put, List.setIfInBounds_toArray, List.set_cons_zero, List.set_cons_succ]
              refine wpAnyM_take0 (i := 5) (v := ?_) (by simp only [List.getElem?_toArray, List.getElem?_cons_succ, List.getElem?_cons_zero]; rfl) (by kernel_rfl) (by kernel_rfl) (by kernel_rfl) (by rfl) (by exact fun _ _ _ h => h) (Or.inl ⟨by rfl, ?_⟩) ?_
              rotate_left
              · (intro w' _; go_simp; try with_reducible rfl)
              try simp only [Act.put, List.setIfInBounds_toArray, List.set_cons_zero, List.set_cons_succ]
              refine wpAnyM_done (by kernel_rfl) ?_ _
              have T18 := Aside0.mk (T10.out.step H17c.out.bel)
              obtain ⟨y0, y1, y2, y3, y4, y5, y6, y7, y8, y9, y10⟩ := hYC.out _ T18.out.r2
              have hTB := (Below.refl _ w17c).alloc (Nat.le_refl _) (.cells #[.bool true] 4)
              have OT := Aside0.mk (oc_true (W := w17c) w17c.heap.size (Nat.le_refl _))
              have TB := Aside0.mk hTB
              have y10' := cell_below hTB y10
              clear hTB
              go_upto_region 22 with (first
                | (at_builtin; (refine wpl_bools (w0 := w17c) w17c.heap.size (by rfl) _ _ 52 4 (by rfl) Try.underlying52 infoBo (some ⟨w17c.heap.size, 0, none⟩) 1 1 K kn kc [true] ks (by rfl) (by rfl) OT.out (T18.out.kb.below TB.out) TB.out.size (by have := HQ.out; omega) TB.out ?_); intro A2 c2 w19 hO hB; (obtain ⟨gk, rfl, hg1, hg2⟩ := hO.out.head (by omega)); (obtain ⟨ok, hh⟩ := H17c.out.holdx hB.out gk hg1 hg2); (have H19 := Aside0.mk (And.intro hh hO.out.rb)); clear hO hB hg1 hg2 hh y0 y1 y2 y3 y4 y5 y6 y7 y8 y9 y10 y10')
                | (go_at_call 38; refine (crash_h H19.out.1 (some ⟨gk, 0, none⟩) (1 + kn) c2 ([true] ++ ks) H19.out.2 (fun _ a e => by injection e with e; rw [← e]; exact .inr ⟨_, List.mem_cons_self⟩)).mono ?_; rintro e w20 ⟨rfl, hH⟩; rw [← HA.out.q5] at hH; (have H20 := Aside0.mk (hH.drop (R1 := [(gp, pgo g)]) (fun p hp => List.mem_cons_of_mem _ hp))); clear hH)
                | fail)
              obtain ⟨x, hx⟩ : ∃ x, newM d5 = x := ⟨_, rfl⟩
              obtain ⟨xge, xph, xtg, xtx, xrt, xpg, xli, xcu⟩ := x
              obtain ⟨a5, ha5⟩ : ∃ x, newAt d5 = x := ⟨_, rfl⟩
              have NX := Aside0.mk (And.intro ha5 (And.intro HA.out.ne hx))
              have NA : ∀ A1 c1, (newM d5).agg A1 c1 = #[.int .i64 xge, .int .i64 xph, .int .i64 xtg, .int .i64 xtx, .int .i64 xrt, .int .i64 xpg, .int .i64 xli, .slice A1 xcu.length c1] := fun A1 c1 => by rw [hx]; rfl
              replace NA := Aside0.mk NA
              clear hx ha5
              go_upto_region 23 with (go_at_call 16; refine (newest_h H20.out List.mem_cons_self).mono ?_; rintro e w21 ⟨A1, c1, rfl, hb, hB⟩; rw [NA.out, NX.out.1, NX.out.2.1]; rw [NX.out.2.2] at hb; (have H21 := Aside0.mk (And.intro (H20.out.step hB) (show Bs w21 A1 xcu.length c1 xcu from hb))); clear hb hB)
              obtain ⟨N8, hN8⟩ : ∃ x, w21.heap.size = x := ⟨_, rfl⟩
              obtain ⟨o8, ho8⟩ : ∃ o, Obj.cells #[.int .i64 xge, .int .i64 xph, .int .i64 xtg, .int .i64 xtx, .int .i64 xrt, .int .i64 xpg, .int .i64 xli, .slice A1 xcu.length c1] 36 = o := ⟨_, rfl⟩
              have hB9 := (Below.refl _ w21).alloc (Nat.le_refl _) o8
              have T22 := Aside0.mk ((T10.out.step H21.out.1.bel).step hB9)
              have H22 := Aside0.mk (And.intro (H21.out.2.below hB9) (heap_alloc_new w21 o8))
              rw [hN8] at H22 ⊢
              rw [ho8]
              obtain ⟨w22, hw22⟩ : ∃ X, w21.alloc o8 = X := ⟨_, rfl⟩
              rw [hw22] at H22 T22 ⊢
              have HO := Aside0.mk ho8
              clear hB9 hw22 ho8 hN8
              obtain ⟨s1, hs1⟩ : ∃ s, msameB xge xph xtg xtx xrt xpg xli xcu oge oph otg otx ort opg oli ocu = s := ⟨_, rfl⟩
              obtain ⟨s2, hs2⟩ : ∃ s, msameB xge xph xtg xtx xrt xpg xli xcu ge ph tg t2 rt pg li cu = s := ⟨_, rfl⟩
              obtain ⟨s3, hs3⟩ : ∃ s, msameB xge xph xtg xtx xrt xpg xli xcu oge oph otg t2 ort opg oli ocu = s := ⟨_, rfl⟩
              have HS := Aside0.mk (show (f0 = 0 → s3 = true) ∧ (s1 = true ∨ s2 = true ∨ s3 = true) from by
                have h1 := HA.out.nm
                have h2 := HA.out.ok
                rw [NX.out.2.2] at h1 h2
                simp only [MV.mk.injEq] at h1 h2
                refine ⟨fun e => ?_, ?_⟩
                · obtain ⟨rfl, rfl, rfl, rfl, rfl, rfl, rfl, rfl⟩ := h2 e
                  rw [← hs3]
                  exact msame_self ..
                · rcases h1 with ⟨rfl, rfl, rfl, rfl, rfl, rfl, rfl, rfl⟩ | ⟨rfl, rfl, rfl, rfl, rfl, rfl, rfl, rfl⟩ | ⟨rfl, rfl, rfl, rfl, rfl, rfl, rfl, rfl⟩
                  · rw [← hs1]
                    exact .inl (msame_self ..)
                  · rw [← hs2]
                    exact .inr (.inl (msame_self ..))
                  · rw [← hs3]
                    exact .inr (.inr (msame_self ..)))
              have cS1 : ∀ kx : Ext w22, Calls Try.prog 19 #[.agg #[.int .i64 xge, .int .i64 xph, .int .i64 xtg, .int .i64 xtx, .int .i64 xrt, .int .i64 xpg, .int .i64 xli, .slice A1 xcu.length c1], .agg #[.int .i64 oge, .int .i64 oph, .int .i64 otg, .int .i64 otx, .int .i64 ort, .int .i64 opg, .int .i64 oli, .slice O ocu.length oc]] kx.w fun e w' => e = .returned (.bool s1) ∧ Below kx.w.heap.size kx.w w' := fun kx => by
                have h := rmsame_any xge xph xtg xtx xrt xpg xli A1 xcu.length c1 xcu oge oph otg otx ort opg oli O ocu.length oc ocu kx.w (H22.out.1.ext kx) (T22.out.co.ext kx)
                rw [hs1] at h
                exact h
              have cS2 : ∀ kx : Ext w22, Calls Try.prog 19 #[.agg #[.int .i64 xge, .int .i64 xph, .int .i64 xtg, .int .i64 xtx, .int .i64 xrt, .int .i64 xpg, .int .i64 xli, .slice A1 xcu.length c1], .agg #[.int .i64 ge, .int .i64 ph, .int .i64 tg, .int .i64 t2, .int .i64 rt, .int .i64 pg, .int .i64 li, .slice A' cu.length c']] kx.w fun e w' => e = .returned (.bool s2) ∧ Below kx.w.heap.size kx.w w' := fun kx => by
                have h := rmsame_any xge xph xtg xtx xrt xpg xli A1 xcu.length c1 xcu ge ph tg t2 rt pg li A' cu.length c' cu kx.w (H22.out.1.ext kx) (T22.out.cm.ext kx)
                rw [hs2] at h
                exact h
              have cS3 : ∀ kx : Ext w22, Calls Try.prog 19 #[.agg #[.int .i64 xge, .int .i64 xph, .int .i64 xtg, .int .i64 xtx, .int .i64 xrt, .int .i64 xpg, .int .i64 xli, .slice A1 xcu.length c1], .agg #[.int .i64 oge, .int .i64 oph, .int .i64 otg, .int .i64 t2, .int .i64 ort, .int .i64 opg, .int .i64 oli, .slice O ocu.length oc]] kx.w fun e w' => e = .returned (.bool s3) ∧ Below kx.w.heap.size kx.w w' := fun kx => by
                have h := rmsame_any xge xph xtg xtx xrt xpg xli A1 xcu.length c1 xcu oge oph otg t2 ort opg oli O ocu.length oc ocu kx.w (H22.out.1.ext kx) (T22.out.co.ext kx)
                rw [hs3] at h
                exact h
              have hr8 := H22.out.2
              rw [← HO.out] at hr8
              clear hs1 hs2 hs3
              obtain ⟨x0, x1, x2, x3, x4, x5, x6, x7⟩ := hYO.out _ T22.out.r0
              obtain ⟨z0, z1, z2, z3, z4, z5, z6, z7⟩ := hYM.out _ T22.out.r1
              obtain ⟨v0, v1, v2, v3, v4, v5, v6, v7⟩ := hYN.out _ T22.out.r3
              obtain ⟨u0, u1, u2, u3, u4, u5, u6, u7⟩ := row8_cells hr8
              clear hr8
              refine wp_region_ext (by kernel_rfl) (by kernel_rfl) ?_
              have xx0 := cell_ext x0
              have xx1 := cell_ext x1
              have xx2 := cell_ext x2
              have xx3 := cell_ext x3
              have xx4 := cell_ext x4
              have xx5 := cell_ext x5
              have xx6 := cell_ext x6
              have xx7 := cell_ext x7
              have zx0 := cell_ext z0
              have zx1 := cell_ext z1
              have zx2 := cell_ext z2
              have zx3 := cell_ext z3
              have zx4 := cell_ext z4
              have zx5 := cell_ext z5
              have zx6 := cell_ext z6
              have zx7 := cell_ext z7
              have vx0 := cell_ext v0
              have vx1 := cell_ext v1
              have vx2 := cell_ext v2
              have vx3 := cell_ext v3
              have vx4 := cell_ext v4
              have vx5 := cell_ext v5
              have vx6 := cell_ext v6
              have vx7 := cell_ext v7
              have ux0 := cell_ext u0
              have ux1 := cell_ext u1
              have ux2 := cell_ext u2
              have ux3 := cell_ext u3
              have ux4 := cell_ext u4
              have ux5 := cell_ext u5
              have ux6 := cell_ext u6
              have ux7 := cell_ext u7
              clear x0 x1 x2 x3 x4 x5 x6 x7
              clear z0 z1 z2 z3 z4 z5 z6 z7
              clear v0 v1 v2 v3 v4 v5 v6 v7
              clear u0 u1 u2 u3 u4 u5 u6 u7
              repeat (go_big_quiet_step (first
                | (go_at_call 19; with_reducible exact Calls.ext_of (cS1 _))
                | (go_at_call 19; with_reducible exact Calls.ext_of (cS2 _))
                | (go_at_call 19; with_reducible exact Calls.ext_of (cS3 _))))
              refine wpQuiet_nil ?_
              rintro w' ⟨kx, rfl⟩
              clear xx0 xx1 xx2 xx3 xx4 xx5 xx6 xx7
              clear zx0 zx1 zx2 zx3 zx4 zx5 zx6 zx7
              clear vx0 vx1 vx2 vx3 vx4 vx5 vx6 vx7
              clear ux0 ux1 ux2 ux3 ux4 ux5 ux6 ux7
              clear cS1 cS2 cS3
              have T23 := Aside0.mk (T22.out.step kx.bel)
              by_cases qf : f0 = 0
              · have gf : (f0 == 0) = true := beq_iff_eq.2 qf
                obtain rfl := HS.out.1 qf
                clear qf
                go_wp2_with (first
                  | (go_at_call 11; with_reducible refine (alive12_any kx.w).mono ?_; rintro e we ⟨rfl, hB⟩; (have HE := Aside0.mk (T23.out.step hB)); clear hB)
                  | fail)
                go_ret
                exact ⟨rfl, HE.out.bel⟩
              have gf : (f0 == 0) = false := beq_eq_false_iff_ne.2 qf
              have gf2 : (f0 != 0) = true := bne_iff_ne.2 qf
              clear qf
              cases s1 with
              | true =>
                go_wp2_with (first
                  | (go_at_call 11; with_reducible refine (alive12_any kx.w).mono ?_; rintro e we ⟨rfl, hB⟩; (have HE := Aside0.mk (T23.out.step hB)); clear hB)
                  | fail)
                go_ret
                exact ⟨rfl, HE.out.bel⟩
              | false =>
                cases s2 with
                | true =>
                  go_wp2_with (first
                    | (go_at_call 11; with_reducible refine (alive12_any kx.w).mono ?_; rintro e we ⟨rfl, hB⟩; (have HE := Aside0.mk (T23.out.step hB)); clear hB)
                    | fail)
                  go_ret
                  exact ⟨rfl, HE.out.bel⟩
                | false =>
                  obtain rfl := (HS.out.2.resolve_left (by decide)).resolve_left (by decide)
                  go_wp2_with (first
                    | (go_at_call 11; with_reducible refine (alive12_any kx.w).mono ?_; rintro e we ⟨rfl, hB⟩; (have HE := Aside0.mk (T23.out.step hB)); clear hB)
                    | fail)
                  go_ret
                  exact ⟨rfl, HE.out.bel⟩
end Go.Proofs.Ythhalmjapiempaa
