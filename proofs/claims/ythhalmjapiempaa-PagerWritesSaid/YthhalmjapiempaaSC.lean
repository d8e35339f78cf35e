/- The document's ops of a commit and of a format. -/
import Derived.Test.YthhalmjapiempaaSB
set_option linter.unusedVariables false
set_option linter.unusedSimpArgs false
namespace Go.Proofs.Ythhalmjapiempaa
open Go.RowKit

def zOp : Value := .agg #[.int .i64 0, .int .i64 0, .int .i64 0, .slice none 0 0, .slice none 0 0]
theorem infoOp : (Try.prog.info? 54).map (fun i => (i.zero, i.size, i.bytes)) = some (some zOp, 5, 72) := by kernel_rfl
/-- append of some elements of k cells. -/
theorem wpl_ocs {P : Program} {ops : Array Oper} {rest : List Oper} {o : Oper} {a : Act} {Q : Exit → Act → World → Prop} {W : World} (base : Nat) (hgd : o.guard = none) (s x : Operand) (t T : TypeId) (z : Value) (k bytes : Nat)
    (ho : o.op = .call { callee := .builtin .append, args := #[s, x], argTypes := #[t, t] })
    (ht : P.underlying t = some (.slice T)) (hinfo : (P.info? T).map (fun i => (i.zero, i.size, i.bytes)) = some (some z, k, bytes)) (hzs : z.cells.size = k) (hk : 0 < k) (hb0 : 0 < bytes) (hb1 : bytes ≤ 1000)
    (A : Option Addr) (n c : Nat) (B : Option Addr) (m e : Nat) (xs ys : List Value) (hs : a.eval s = .slice A n c) (hx : a.eval x = .slice B m e)
    (HO : Oc W base T k A n c xs) (HY : Rc W k B m e ys) (hbase : base ≤ W.heap.size) (h0 : 0 < n + m) (hn : n + m ≤ 1000000000)
    (h : ∀ A2 c2 w1, Aside0 (Oc w1 base T k A2 (n + m) c2 (xs ++ ys)) → Aside0 (Grw A W w1) → Aside0 (A2 = A ∨ A2 = some ⟨W.heap.size, 0, none⟩) → wpList P ops Q rest (a.put o.dst (.slice A2 (n + m) c2)) w1) :
    wpList P ops Q (o :: rest) a W := by
  refine wpl_append (w0 := W) base hgd s x t T z k bytes ho ht hinfo hzs hk hb0 (.slice A n c) n xs B m e ys hs hx HO.row HY.len HY.cells (fun u hu => HY.one u hu) (Below.refl _ _) hbase ?_ ?_
  · have := Nat.mul_le_mul hn hb1
    omega
  · intro v1 w1 hown hB hg hat
    obtain ⟨A2, c2, rfl⟩ := own_form hown
    have hO2 : Oc w1 base T k A2 (n + m) c2 (xs ++ ys) := ⟨hown, fun u hu => by
        rcases List.mem_append.1 hu with hu | hu
        · exact HO.one u hu
        · exact HY.one u hu, hn⟩
    refine h A2 c2 w1 ⟨hO2⟩ ⟨⟨hg.os, hg.tape, hg.output, hg.size, fun j hj hne => hg.block j hj ?_⟩⟩ ⟨?_⟩
    · rcases HO.addr with rfl | ⟨q, rfl, _⟩
      · intro e
        cases e
      · intro e
        simp only [Value.ownBlock, Option.some.injEq] at e
        exact hne (by rw [e])
    · obtain ⟨q2, rfl, _⟩ := hO2.head h0
      rcases hat with e | e
      · rcases HO.addr with rfl | ⟨q, rfl, _⟩
        · cases e
        · simp only [Value.ownBlock, Option.some.injEq] at e
          exact .inl (by rw [e])
      · simp only [Value.ownBlock, Option.some.injEq] at e
        exact .inr (by rw [e])
theorem rc_lit5 {W : World} (qs : List (Int × Int × Option Addr × Nat × Nat)) (n : Nat) (hn : qs.length = n) (hl : n ≤ 1000000000) (C : Array Value) (TT : TypeId) (hC : C = (ov qs).toArray) : Rc (W.alloc (.cells C TT)) 5 (some ⟨W.heap.size, 0, none⟩) n n (ov qs) := by
  subst hC
  refine ⟨by rw [ov_len, hn], Nat.le_refl _, by omega, hl, ov_one qs, fun _ => ⟨_, rfl, fun j u hu => ?_⟩⟩
  rw [add_plain, cell_of_row _ _ _ _ _ _ (heap_alloc_new W _)]
  simpa using hu
theorem oc_lit5 {W : World} (base : Nat) (hb : base ≤ W.heap.size) (qs : List (Int × Int × Option Addr × Nat × Nat)) (n : Nat) (hn : qs.length = n) (hl : n ≤ 1000000000) (C : Array Value) (hC : C = (ov qs).toArray) : Oc (W.alloc (.cells C 54)) base 54 5 (some ⟨W.heap.size, 0, none⟩) n n (ov qs) := by
  subst hC
  refine ⟨?_, ov_one qs, hl⟩
  have := World.ownsRow_lit (base := base) (e := 54) (size := 5) W (ov qs).toArray n hb (by simp [maxLen]; omega) (by simp [ov_len, hn])
  simpa using this
theorem cell_same {w W : World} {a : Addr} (h : W.heap[a.block]? = w.heap[a.block]?) : W.cell? a = w.cell? a := by unfold World.cell?; rw [h]
theorem add_blk (ad : Addr) (j : Nat) : (ad.add j).block = ad.block := by unfold Addr.add; split <;> rfl
theorem Bs.row {w W : World} {g n c : Nat} {xs : List UInt8} (h : Bs w (some ⟨g, 0, none⟩) n c xs) (hw : W.heap[g]? = w.heap[g]?) : Bs W (some ⟨g, 0, none⟩) n c xs :=
  ⟨h.len, h.le, h.cap, h.lim, fun h0 => by
    obtain ⟨ad, e, hc⟩ := h.cells h0
    injection e with e
    subst e
    exact ⟨_, rfl, fun j hj => (cell_same (by rw [add_blk]; exact hw)).trans (hc j hj)⟩⟩
theorem Oc.lt {w : World} {base k n c : Nat} {T : TypeId} {A : Option Addr} {xs : List Value} (h : Oc w base T k A n c xs) (j : Nat) (e : A = some ⟨j, 0, none⟩) : j < w.heap.size := by
  rcases h.addr with rfl | ⟨g, rfl, _, hg⟩
  · cases e
  · injection e with e
    injection e with e
    omega
/-- A row of ops that is made, beside rows that stand. -/
structure OS (w : World) (N : Nat) (R : List (Nat × Obj)) (qs : List (Int × Int × Option Addr × Nat × Nat)) (A : Option Addr) (n c : Nat) (W : World) : Prop where
  oc : Oc W N 54 5 A n c (ov qs)
  bel : Below N w W
  lo : N ≤ W.heap.size
  rows : ∀ p ∈ R, W.heap[p.1]? = some p.2 ∧ A ≠ some ⟨p.1, 0, none⟩
theorem OS.step {w : World} {N : Nat} {R : List (Nat × Obj)} {qs : List (Int × Int × Option Addr × Nat × Nat)} {A : Option Addr} {n c : Nat} {W W1 : World} (h : OS w N R qs A n c W) (hB : Below W.heap.size W W1) : OS w N R qs A n c W1 :=
  ⟨h.oc.below hB, below_then h.bel h.lo hB, Nat.le_trans h.lo hB.size, fun p hp => ⟨(hB.block _ (Array.getElem?_eq_some_iff.1 (h.rows p hp).1).1).trans (h.rows p hp).1, (h.rows p hp).2⟩⟩
theorem OS.lit {w : World} {N : Nat} {R : List (Nat × Obj)} {qs : List (Int × Int × Option Addr × Nat × Nat)} {A : Option Addr} {n c : Nat} {W : World} (h : OS w N R qs A n c W) (o : Obj) : OS w N ((W.heap.size, o) :: R) qs A n c (W.alloc o) := by
  have h1 := h.step ((Below.refl _ W).alloc (Nat.le_refl _) o)
  refine ⟨h1.oc, h1.bel, h1.lo, fun p hp => ?_⟩
  rcases List.mem_cons.1 hp with rfl | hp
  · refine ⟨heap_alloc_new W o, fun e => ?_⟩
    have := h.oc.lt _ e
    simp at this
  · exact h1.rows p hp
theorem OS.own {w : World} {N : Nat} {R : List (Nat × Obj)} {qs : List (Int × Int × Option Addr × Nat × Nat)} {A : Option Addr} {n c : Nat} {W W1 : World} (h : OS w N R qs A n c W) (hB : Below W.heap.size W W1) {A7 : Option Addr} {n7 c7 : Nat} {xs : List UInt8} (hO : Ow W1 W.heap.size A7 n7 c7 xs) (h0 : 0 < n7) :
    ∃ g o, A7 = some ⟨g, 0, none⟩ ∧ OS w N ((g, o) :: R) qs A n c W1 ∧ W1.heap[g]? = some o := by
  obtain ⟨g, e, h1, h2, _⟩ := hO.head h0
  obtain ⟨ob, hob⟩ : ∃ x, W1.heap[g]? = some x := ⟨_, Array.getElem?_eq_getElem h2⟩
  have hs := h.step hB
  refine ⟨g, ob, e, ⟨hs.oc, hs.bel, hs.lo, fun p hp => ?_⟩, hob⟩
  rcases List.mem_cons.1 hp with rfl | hp
  · refine ⟨hob, fun e => ?_⟩
    have := h.oc.lt _ e
    omega
  · exact hs.rows p hp
theorem OS.app {w : World} {N : Nat} {R : List (Nat × Obj)} {qs ps : List (Int × Int × Option Addr × Nat × Nat)} {A A2 : Option Addr} {n c m c2 : Nat} {W w1 : World} (h : OS w N R qs A n c W) (hO : Oc w1 N 54 5 A2 m c2 (ov qs ++ ov ps)) (hG : Grw A W w1) (hA : A2 = A ∨ A2 = some ⟨W.heap.size, 0, none⟩) : OS w N R (qs ++ ps) A2 m c2 w1 := by
  refine ⟨by rw [ov_append]; exact hO, ⟨hG.os.trans h.bel.os, hG.tape.trans h.bel.tape, hG.output.trans h.bel.output, Nat.le_trans h.bel.size hG.size, fun i hi => (hG.block i (Nat.lt_of_lt_of_le hi h.lo) (fun e => by have := h.oc.lo _ e; omega)).trans (h.bel.block i hi)⟩, Nat.le_trans h.lo hG.size, fun p hp => ?_⟩
  have h1 := h.rows p hp
  have h2 := (Array.getElem?_eq_some_iff.1 h1.1).1
  refine ⟨(hG.block _ h2 h1.2).trans h1.1, fun e => ?_⟩
  rcases hA with rfl | rfl
  · exact h1.2 e
  · injection e with e
    injection e with e
    omega
theorem QL.app {W : World} {a b : List (Int × Int × Option Addr × Nat × Nat)} {x y : List (Int × Int × List UInt8)} (h : QL W a x) (k : QL W b y) : QL W (a ++ b) (x ++ y) := by
  refine ⟨by rw [List.length_append, List.length_append, h.len, k.len], fun j p hj => ?_⟩
  rcases Nat.lt_or_ge j a.length with q | q
  · rw [List.getElem?_append_left q] at hj
    rw [List.getElem?_append_left (by rw [← h.len]; exact q)]
    exact h.each j p hj
  · rw [List.getElem?_append_right q] at hj
    rw [List.getElem?_append_right (by rw [← h.len]; exact q), ← h.len]
    exact k.each _ p hj
theorem QL.one {W : World} {p : (Int × Int × Option Addr × Nat × Nat)} {q : (Int × Int × List UInt8)} (h : QK p q) (hb : Bs W p.2.2.1 p.2.2.2.1 p.2.2.2.2 q.2.2) : QL W [p] [q] := by
  refine ⟨rfl, fun j p' hj => ?_⟩
  cases j with
  | zero => injection hj with hj; subst hj; exact ⟨q, rfl, h, hb⟩
  | succ j => cases hj
/-- Headers that hold writes. -/
structure HWs (W : World) (hs : List (Int × Option Addr × Nat × Nat)) (l : List (Int × List UInt8)) : Prop where
  len : hs.length = l.length
  each : ∀ (j : Nat) (p : (Int × Option Addr × Nat × Nat)), hs[j]? = some p → ∃ q : Int × List UInt8, l[j]? = some q ∧ p.1 = q.1 ∧ 0 ≤ q.1 ∧ q.1 ≤ 100000 ∧ Bs W p.2.1 p.2.2.1 p.2.2.2 q.2
theorem HWs.below {W W1 : World} {hs : List (Int × Option Addr × Nat × Nat)} {l : List (Int × List UInt8)} (h : HWs W hs l) (hB : Below W.heap.size W W1) : HWs W1 hs l :=
  ⟨h.len, fun j p hj => by obtain ⟨q, a, b, c, d, e⟩ := h.each j p hj; exact ⟨q, a, b, c, d, e.below hB⟩⟩
def opp (p : (Int × Option Addr × Nat × Nat)) : (Int × Int × Option Addr × Nat × Nat) := (2, 4 * p.1, p.2.1, p.2.2.1, p.2.2.2)
def opl (p : Int × List UInt8) : (Int × Int × List UInt8) := (2, 4 * p.1, p.2)
theorem HWs.ql {W : World} {hs : List (Int × Option Addr × Nat × Nat)} {l : List (Int × List UInt8)} (h : HWs W hs l) : QL W (hs.map opp) (l.map opl) := by
  refine ⟨by rw [List.length_map, List.length_map, h.len], fun j p hj => ?_⟩
  rw [List.getElem?_map] at hj
  obtain ⟨p', hp, rfl⟩ := Option.map_eq_some_iff.1 hj
  obtain ⟨q, hq, e, b1, b2, hb⟩ := h.each j p' hp
  refine ⟨opl q, by rw [List.getElem?_map, hq]; rfl, ⟨rfl, by show 4 * p'.1 = 4 * q.1; rw [e], by show -1000000000 ≤ 4 * q.1; omega, by show 4 * q.1 ≤ 1000000000; omega, .inr (.inl rfl)⟩, hb⟩
def opsL (l : List (Int × List UInt8)) (m : MV) (fmt : Bool) : List (Int × Int × List UInt8) :=
  if fmt = true then [((0 : Int), 4 * m.pg, ([] : List UInt8))] ++ [(2, 4 * ((m.tx - 1) % 2), encM m.was), (2, 4 * (m.tx % 2), encM m)] ++ l.map opl ++ [(3, 0, [])]
  else [((0 : Int), 4 * m.pg, ([] : List UInt8))] ++ [(2, 4 * (m.tx % 2), List.replicate 256 0)] ++ l.map opl ++ [(3, 0, [])] ++ [(2, 4 * (m.tx % 2), encM m), (3, 0, [])]

set_option maxHeartbeats 16000000 in
set_option maxRecDepth 100000 in
theorem rops_commit (A : Option Addr) (n c : Nat) (hs : List (Int × Option Addr × Nat × Nat)) (l : List (Int × List UInt8)) (m : MV) (A' : Option Addr) (c' : Nat) (w : World) (hr : Rc w 2 A n c (wv hs)) (hl : hs.length = n) (hh : HWs w hs l) (hm : Bs w A' m.cu.length c' m.cu) (hmr : mrightB m.ge m.ph m.tg m.tx m.rt m.pg m.li m.cu.length = true) (hn : n ≤ 100000) :
    Calls Try.prog 25 #[.slice A n c, .agg (m.agg A' c'), .bool false] w fun e w' => ∃ O on oc qs, e = .returned (.slice O on oc) ∧ Rc w' 5 O on oc (ov qs) ∧ QL w' qs (opsL l m false) ∧ qs.length = on ∧ Below w.heap.size w w' := by
  obtain ⟨ge, ph, tg, tx, rt, pg, li, cu⟩ := m
  obtain ⟨bx, hbx⟩ : ∃ b : Obj, Obj.cells #[.int .i64 ge, .int .i64 ph, .int .i64 tg, .int .i64 tx, .int .i64 rt, .int .i64 pg, .int .i64 li, .slice A' cu.length c'] 24 = b := ⟨_, rfl⟩
  have hB0 := (Below.refl _ w).alloc (Nat.le_refl _) bx
  have H0 := Aside0.mk (And.intro (heap_alloc_new w bx) (And.intro hB0 (And.intro (hm.below hB0) (by simp : (w.alloc bx).heap.size = w.heap.size + 1))))
  have HX := Aside0.mk (And.intro hr (And.intro hl hh))
  have hcl := hm.lim
  have BD := Aside0.mk (right_bounds hmr)
  have HMR := Aside0.mk hmr
  clear hr hl hh hm hB0
  show Calls Try.prog 25 #[.slice A n c, .agg #[.int .i64 ge, .int .i64 ph, .int .i64 tg, .int .i64 tx, .int .i64 rt, .int .i64 pg, .int .i64 li, .slice A' cu.length c'], .bool false] w _
  have wp1 : IntKind.i64.wrap (4 * pg) = 4 * pg := IntWalk.i64_in _ (by have := BD.out; simp only at this; omega)
  obtain ⟨p4, hp4⟩ : ∃ x, 4 * pg = x := ⟨_, rfl⟩
  have wp2 : wrap64 (4 * pg) = 4 * pg := IntWalk.wrap64_in _ (by have := BD.out; simp only at this; omega)
  replace wp1 := wp1.trans hp4
  replace wp2 := wp2.trans hp4
  have HP4 := Aside0.mk (show 4 * pg = p4 ∧ 0 ≤ p4 ∧ p4 ≤ 1000000 by have := BD.out; simp only at this; omega)
  obtain ⟨a4, ha4⟩ : ∃ x, 4 * (tx % 2) = x := ⟨_, rfl⟩
  have HA4 := Aside0.mk (show 4 * (tx % 2) = a4 ∧ 0 ≤ a4 ∧ a4 ≤ 4 by omega)
  have wa1 : tx.tmod 2 = tx % 2 := Int.tmod_eq_emod_of_nonneg (by have := BD.out; simp only at this; omega)
  have wa2 : IntKind.i64.wrap (4 * (tx % 2)) = 4 * (tx % 2) := IntWalk.i64_in _ (by omega)
  obtain ⟨en, hen⟩ : ∃ x, encR ge ph tg tx rt pg li cu = x := ⟨_, rfl⟩
  have HEN := Aside0.mk (show encM ⟨ge, ph, tg, tx, rt, pg, li, cu⟩ = en from (enc_eq HMR.out).trans hen)
  have HEE := Aside0.mk hen
  have HLE := Aside0.mk (show en.length = 256 by rw [← hen]; exact (encR_read HMR.out).1)
  have wa3 : wrap64 (4 * (tx % 2)) = 4 * (tx % 2) := IntWalk.wrap64_in _ (by omega)
  replace wa2 := wa2.trans ha4
  replace wa3 := wa3.trans ha4
  clear hmr hen hp4 ha4
  go_enter Try.func25, Try.ntmps25
  go_upto_region 1 with fail
  obtain ⟨w0, hw0⟩ : ∃ X, w.alloc bx = X := ⟨_, rfl⟩
  obtain ⟨N, hN⟩ : ∃ X, w.heap.size = X := ⟨_, rfl⟩
  rw [hw0, hN] at H0
  rw [hw0, hN]
  have hN' := Aside0.mk hN
  have HT := Aside0.mk (show ∀ X : World, Below N w X → Rc X 2 A n c (wv hs) ∧ HWs X hs l from fun X hX => by rw [← hN'.out] at hX; exact ⟨HX.out.1.below hX, HX.out.2.2.below hX⟩)
  have hr0 := H0.out.1
  rw [← hbx] at hr0
  obtain ⟨y0, y1, y2, y3, y4, y5, y6, y7⟩ := row8_cells hr0
  have HBX := Aside0.mk hbx
  have HSN := Aside0.mk (show ∀ X : World, X.heap[N]? = some bx → X.cell? ⟨N, 3, none⟩ = some (.int .i64 tx) from fun X hX => by rw [← HBX.out] at hX; exact (row8_cells hX).2.2.2.1)
  clear hw0 hr0 hbx hN
  go_upto_region 2 with fail
  obtain ⟨N1, hN1⟩ : ∃ X, w0.heap.size = X := ⟨_, rfl⟩
  have hlo1 : N ≤ w0.heap.size := by rw [H0.out.2.2.2]; omega
  have hS1 : OS w N [(N, bx)] [(0, p4, none, 0, 0)] (some ⟨w0.heap.size, 0, none⟩) 1 1 (w0.alloc (.cells #[.int .i64 0, .int .i64 p4, .int .i64 0, .slice none 0 0, .slice none 0 0] 54)) := by
    refine ⟨oc_lit5 N hlo1 [(0, p4, none, 0, 0)] 1 rfl (by omega) _ rfl, H0.out.2.1.alloc hlo1 _, by simp; omega, fun p hp => ?_⟩
    obtain rfl := List.mem_singleton.1 hp
    refine ⟨(Below.heap_alloc _ _ _ (by rw [H0.out.2.2.2]; omega)).trans H0.out.1, fun e => ?_⟩
    injection e with e
    injection e with e
    rw [H0.out.2.2.2] at e
    omega
  rw [hN1] at hS1 ⊢
  obtain ⟨w1, hw1⟩ : ∃ X, w0.alloc (.cells #[.int .i64 0, .int .i64 p4, .int .i64 0, .slice none 0 0, .slice none 0 0] 54) = X := ⟨_, rfl⟩
  have hbm : Bs w1 A' cu.length c' cu := by rw [← hw1]; exact H0.out.2.2.1.alloc _
  rw [hw1] at hS1 ⊢
  have H1 := Aside0.mk (And.intro hS1 hbm)
  clear hS1 hbm hw1 hN1 hlo1 y0 y1 y2 y3 y4 y5 y6 y7
  have hr0 := (H1.out.1.rows _ List.mem_cons_self).1
  rw [← HBX.out] at hr0
  obtain ⟨y0, y1, y2, y3, y4, y5, y6, y7⟩ := row8_cells hr0
  clear hr0
  go_upto_region 3 with (go_at_call 57; refine (rencode_any ge ph tg tx rt pg li A' cu.length c' cu w1 H1.out.2).mono ?_; rintro e w2 ⟨hB, hc⟩; (have hc := hc.resolve_left (fun z => by have := HMR.out; rw [z.1] at this; cases this)); (obtain ⟨_, A7, c7, rfl, hO⟩ := hc); rw [HEE.out, HLE.out] at hO; rw [HEE.out, HLE.out]; (obtain ⟨g7, o7, rfl, hS, ho⟩ := H1.out.1.own hB hO (by omega)); (have H2 := Aside0.mk (And.intro hS (And.intro hO.bs (And.intro ho (H1.out.2.below hB))))); clear hO hB hS ho)
  have hr0 := (H2.out.1.rows (N, bx) (List.mem_cons_of_mem _ List.mem_cons_self)).1
  rw [← HBX.out] at hr0
  clear y0 y1 y2 y3 y4 y5 y6 y7
  obtain ⟨y0, y1, y2, y3, y4, y5, y6, y7⟩ := row8_cells hr0
  clear hr0
  have hmk : ∀ W : World, (Instr.makeSlice 22 (.int .i64 256) (.int .i64 256)).run Try.prog W = .ok (.slice (some ⟨W.heap.size, 0, none⟩) 256 256) (W.alloc (.cells (madeCells #[.int .u8 0] 256) 5)) := mk8 256 (by omega)
  go_upto_region 9 with fail
  have hS3 := H2.out.1.step (below_drew (Below.refl _ _))
  have hB3 : Bs w2.drew (some ⟨g7, 0, none⟩) 256 c7 en := H2.out.2.1.drew
  have ho3 : w2.drew.heap[g7]? = some o7 := H2.out.2.2.1
  obtain ⟨W3, hW3⟩ : ∃ X, w2.drew = X := ⟨_, rfl⟩
  obtain ⟨oz, hoz⟩ : ∃ o, Obj.cells (madeCells #[Value.int .u8 0] 256) 5 = o := ⟨_, rfl⟩
  rw [hW3] at hS3 hB3 ho3
  have HS3 := Aside0.mk (show W3.cell? ⟨N, 3, none⟩ = some (.int .i64 tx) by rw [← hW3]; exact y3)
  have H3 := Aside0.mk (And.intro hS3 (And.intro hB3 ho3))
  have h4 := H3.out.1.lit oz
  have hb4 := (Ow.made W3 W3.heap.size W3.heap.size rfl (Nat.le_refl _) 256 (by omega)).bs
  rw [hoz] at hb4
  have HS4 := Aside0.mk (cell_below ((Below.refl _ W3).alloc (Nat.le_refl _) oz) HS3.out)
  have H4 := Aside0.mk (And.intro h4 (And.intro hb4 (heap_alloc_new W3 oz)))
  clear hS3 hB3 ho3 h4 hb4 y0 y1 y2 y3 y4 y5 y6 y7
  refine wp_region_M (fun j => decide (j < 10)) (fun w' => w'.cell? ⟨N, 3, none⟩ = some (.int .i64 tx)) (by kernel_rfl) ?_
  rw [hW3]
  clear hW3
  refine wpAnyM_take (i := 0) (v := ?_) (by simp only [List.getElem?_toArray, List.getElem?_cons_succ, List.getElem?_cons_zero]; rfl) (by kernel_rfl) (by kernel_rfl) (by kernel_rfl) (by kernel_rfl) (by exact fun _ _ _ h => h) (Or.inl ⟨by rfl, ?_⟩) HS3.out ?_
  rotate_left
  · (intro w' hSw; (try dsimp only at hSw); go_simp; try with_reducible rfl)
  try simp only [Act.put, List.setIfInBounds_toArray, List.set_cons_zero, List.set_cons_succ]
  refine wpAnyM_take (i := 1) (v := ?_) (by simp only [List.getElem?_toArray, List.getElem?_cons_succ, List.getElem?_cons_zero]; rfl) (by kernel_rfl) (by kernel_rfl) (by kernel_rfl) (by kernel_rfl) (by exact fun _ _ _ h => h) (Or.inl ⟨by rfl, ?_⟩) HS3.out ?_
  rotate_left
  · (intro w' hSw; (try dsimp only at hSw); go_simp; try with_reducible rfl)
  try simp only [Act.put, List.setIfInBounds_toArray, List.set_cons_zero, List.set_cons_succ]
  refine wpAnyM_take (i := 2) (v := ?_) (by simp only [List.getElem?_toArray, List.getElem?_cons_succ, List.getElem?_cons_zero]; rfl) (by kernel_rfl) (by kernel_rfl) (by kernel_rfl) (by kernel_rfl) (by exact fun _ _ _ h => h) (Or.inl ⟨by rfl, ?_⟩) HS3.out ?_
  rotate_left
  · (intro w' hSw; (try dsimp only at hSw); go_simp; try with_reducible rfl)
  try simp only [Act.put, List.setIfInBounds_toArray, List.set_cons_zero, List.set_cons_succ]
  refine wpAnyM_take (i := 3) (v := ?_) (by simp only [List.getElem?_toArray, List.getElem?_cons_succ, List.getElem?_cons_zero]; rfl) (by kernel_rfl) (by kernel_rfl) (by kernel_rfl) (by kernel_rfl) (by exact fun _ _ _ h => h) (Or.inl ⟨by rfl, ?_⟩) HS3.out ?_
  rotate_left
  · (intro w' hSw; (try dsimp only at hSw); go_simp; try with_reducible rfl)
  try simp only [Act.put, List.setIfInBounds_toArray, List.set_cons_zero, List.set_cons_succ]
  refine wpAnyM_take (i := 4) (v := ?_) (by simp only [List.getElem?_toArray, List.getElem?_cons_succ, List.getElem?_cons_zero]; rfl) (by kernel_rfl) (by kernel_rfl) (by kernel_rfl) (by kernel_rfl) (by exact fun _ _ _ h => h) (Or.inl ⟨by rfl, ?_⟩) HS3.out ?_
  rotate_left
  · (intro w' hSw; (try dsimp only at hSw); go_simp; try with_reducible rfl)
  try simp only [Act.put, List.setIfInBounds_toArray, List.set_cons_zero, List.set_cons_succ]
  refine wpAnyM_one (i := 5) (by kernel_rfl) (by simp only [List.getElem?_toArray, List.getElem?_cons_succ, List.getElem?_cons_zero]; rfl) ?_
  go_wp2_with fail
  refine ⟨HS4.out, ?_⟩
  obtain ⟨NZ, hNZ⟩ : ∃ X, W3.heap.size = X := ⟨_, rfl⟩
  obtain ⟨W4, hW4⟩ : ∃ X, W3.alloc oz = X := ⟨_, rfl⟩
  rw [hW4, hNZ] at H4
  rw [hW4] at HS4
  rw [hW4, hNZ]
  try simp only [Act.put, List.setIfInBounds_toArray, List.set_cons_zero, List.set_cons_succ]
  refine wpAnyM_take (i := 6) (v := ?_) (by simp only [List.getElem?_toArray, List.getElem?_cons_succ, List.getElem?_cons_zero]; rfl) (by kernel_rfl) (by kernel_rfl) (by kernel_rfl) (by kernel_rfl) (by exact fun _ _ _ h => h) (Or.inl ⟨by rfl, ?_⟩) HS4.out ?_
  rotate_left
  · (intro w' hSw; (try dsimp only at hSw); go_simp; try with_reducible rfl)
  try simp only [Act.put, List.setIfInBounds_toArray, List.set_cons_zero, List.set_cons_succ]
  refine wpAnyM_one (i := 7) (by kernel_rfl) (by simp only [List.getElem?_toArray, List.getElem?_cons_succ, List.getElem?_cons_zero]; rfl) ?_
  go_wp2_with fail
  have h5 := H4.out.1.step ((Below.refl _ W4).alloc (Nat.le_refl _) (.cells #[.int .i64 2, .int .i64 a4, .int .i64 0, .slice (some ⟨NZ, 0, none⟩) 256 256, .slice none 0 0] 54))
  have hl5 := rc_lit5 (W := W4) [(2, a4, some ⟨NZ, 0, none⟩, 256, 256)] 1 rfl (by omega) #[.int .i64 2, .int .i64 a4, .int .i64 0, .slice (some ⟨NZ, 0, none⟩) 256 256, .slice none 0 0] 54 rfl
  obtain ⟨NL, hNL⟩ : ∃ X, W4.heap.size = X := ⟨_, rfl⟩
  obtain ⟨W5, hW5⟩ : ∃ X, W4.alloc (.cells #[.int .i64 2, .int .i64 a4, .int .i64 0, .slice (some ⟨NZ, 0, none⟩) 256 256, .slice none 0 0] 54) = X := ⟨_, rfl⟩
  rw [hW5] at h5 hl5 ⊢
  rw [hNL] at hl5 ⊢
  have H5 := Aside0.mk (And.intro h5 hl5)
  clear h5 hl5 hW5 hNL hW4 hNZ hoz
  refine ⟨HSN.out _ (H5.out.1.rows (N, bx) (List.mem_cons_of_mem _ (List.mem_cons_of_mem _ List.mem_cons_self))).1, ?_⟩
  try simp only [Act.put, List.setIfInBounds_toArray, List.set_cons_zero, List.set_cons_succ]
  refine wpAnyM_one (i := 8) (by kernel_rfl) (by simp only [List.getElem?_toArray, List.getElem?_cons_succ, List.getElem?_cons_zero]; rfl) ?_
  refine wpl_ocs N (by rfl) (.tmp 52) (.tmp 59) 57 54 zOp 5 72 (by rfl) Try.underlying57 infoOp rfl (by omega) (by omega) (by omega) (some ⟨N1, 0, none⟩) 1 1 (some ⟨NL, 0, none⟩) 1 1 (ov [(0, p4, none, 0, 0)]) (ov [(2, a4, some ⟨NZ, 0, none⟩, 256, 256)]) (by rfl) (by rfl) H5.out.1.oc H5.out.2 H5.out.1.lo (by omega) (by omega) ?_
  intro A6 c6 W6 hO hG hA
  have H6 := Aside0.mk (H5.out.1.app (ps := [(2, a4, some ⟨NZ, 0, none⟩, 256, 256)]) hO.out hG.out hA.out)
  clear hO hG hA
  refine wpl_nil (And.intro rfl (And.intro (fun _ => HSN.out _ (H6.out.rows (N, bx) (List.mem_cons_of_mem _ (List.mem_cons_of_mem _ List.mem_cons_self))).1) ?_))
  try simp only [Act.put, List.setIfInBounds_toArray, List.set_cons_zero, List.set_cons_succ]
  refine wpAnyM_take (i := 9) (v := ?_) (by simp only [List.getElem?_toArray, List.getElem?_cons_succ, List.getElem?_cons_zero]; rfl) (by kernel_rfl) (by kernel_rfl) (by kernel_rfl) (by kernel_rfl) (by exact fun _ _ _ h => h) (Or.inl ⟨by rfl, ?_⟩) (HSN.out _ (H6.out.rows (N, bx) (List.mem_cons_of_mem _ (List.mem_cons_of_mem _ List.mem_cons_self))).1) ?_
  rotate_left
  · (intro w' hSw; (try dsimp only at hSw); go_simp; try with_reducible rfl)
  try simp only [Act.put, List.setIfInBounds_toArray, List.set_cons_zero, List.set_cons_succ]
  refine wpAnyM_done (by kernel_rfl) ?_ _
  go_wp2_with fail
  go_loopg [7, 13] n (fun gk v7 v13 wr => ∃ (j : Nat) (Aj : Option Addr) (cj : Nat), Aside (gk + j = n) ∧ v13 = .int .i64 (j : Int) ∧ v7 = .slice Aj (2 + j) cj ∧ Aside0 (OS w N [(NZ, oz), (g7, o7), (N, bx)] (([(0, p4, none, 0, 0)] ++ [(2, a4, some ⟨NZ, 0, none⟩, 256, 256)]) ++ (hs.take j).map opp) Aj (2 + j) cj wr))
  case atStart => exact ⟨0, A6, c6, rfl, rfl, rfl, ⟨by rw [List.take_zero, List.map_nil, List.append_nil]; exact H6.out⟩⟩
  case round =>
    obtain ⟨j, Aj, cj, hk, rfl, rfl, hI⟩ := hrel
    have hjm : j ≤ n := by have := hk.out; omega
    rcases Nat.lt_or_ge j n with hlt | hge
    · have d1 : decide ((j : Int) < (n : Int)) = true := decide_eq_true (by omega)
      have hjn : (j : Int) < (n : Int) := by omega
      obtain ⟨ad, p, rfl, hp, c0, c1⟩ := (HT.out _ hI.out.bel).1.two HX.out.2.1 j hlt
      obtain ⟨q, hq, hqe, hq0, hq1, hqb⟩ := (HT.out _ hI.out.bel).2.each j p hp
      obtain ⟨p0, p1, p2, p3⟩ := p
      simp only at hqe c0 c1
      have iw4 : IntKind.i64.wrap (4 * p0) = 4 * p0 := IntWalk.i64_in _ (by omega)
      have iw5 : wrap64 (4 * p0) = 4 * p0 := IntWalk.wrap64_in _ (by omega)
      have HP := Aside0.mk hp
      clear hp hq hqe hq0 hq1 hqb
      have hJ := hI.out.step (below_drew (Below.refl _ _))
      go_upto_region 13 with fail
      have HS := Aside0.mk (show wr.drew.cell? (ad.add (j * 2)) = some (.int .i64 p0) ∧ wr.drew.cell? ⟨(ad.add (j * 2)).block, (ad.add (j * 2)).off + 1, none⟩ = some (.slice p1 p2 p3) from ⟨c0, c1⟩)
      obtain ⟨wd, hwd⟩ : ∃ X, wr.drew = X := ⟨_, rfl⟩
      rw [hwd] at hJ HS
      have HJ := Aside0.mk hJ
      have HSX := Aside0.mk (show ∀ X : World, Below N w X → X.cell? (ad.add (j * 2)) = some (.int .i64 p0) ∧ X.cell? ⟨(ad.add (j * 2)).block, (ad.add (j * 2)).off + 1, none⟩ = some (.slice p1 p2 p3) from fun X hX => by
        obtain ⟨ad', p', e, hp', e0, e1⟩ := (HT.out X hX).1.two HX.out.2.1 j hlt
        injection e with e
        subst e
        rw [HP.out] at hp'
        injection hp' with hp'
        subst hp'
        exact ⟨e0, e1⟩)
      clear hJ c0 c1
      refine wp_region_M (fun j => decide (j < 16)) (fun w' => w'.cell? (ad.add (j * 2)) = some (.int .i64 p0) ∧ w'.cell? ⟨(ad.add (j * 2)).block, (ad.add (j * 2)).off + 1, none⟩ = some (.slice p1 p2 p3)) (by kernel_rfl) ?_
      rw [hwd]
      clear hwd
      refine wpAnyM_take (i := 0) (v := ?_) (by simp only [List.getElem?_toArray, List.getElem?_cons_succ, List.getElem?_cons_zero]; rfl) (by kernel_rfl) (by kernel_rfl) (by kernel_rfl) (by kernel_rfl) (by exact fun _ _ _ h => h) (Or.inl ⟨by rfl, ?_⟩) HS.out ?_
      rotate_left
      · (intro w' hSw; (try dsimp only at hSw); go_simp; try with_reducible rfl)
      try simp only [Act.put, List.setIfInBounds_toArray, List.set_cons_zero, List.set_cons_succ]
      refine wpAnyM_take (i := 1) (v := ?_) (by simp only [List.getElem?_toArray, List.getElem?_cons_succ, List.getElem?_cons_zero]; rfl) (by kernel_rfl) (by kernel_rfl) (by kernel_rfl) (by kernel_rfl) (by exact fun _ _ _ h => h) (Or.inl ⟨by rfl, ?_⟩) HS.out ?_
      rotate_left
      · (intro w' hSw; (try dsimp only at hSw); go_simp; try with_reducible rfl)
      try simp only [Act.put, List.setIfInBounds_toArray, List.set_cons_zero, List.set_cons_succ]
      refine wpAnyM_take (i := 2) (v := ?_) (by simp only [List.getElem?_toArray, List.getElem?_cons_succ, List.getElem?_cons_zero]; rfl) (by kernel_rfl) (by kernel_rfl) (by kernel_rfl) (by kernel_rfl) (by exact fun _ _ _ h => h) (Or.inl ⟨by rfl, ?_⟩) HS.out ?_
      rotate_left
      · (intro w' hSw; (try dsimp only at hSw); go_simp; try with_reducible rfl)
      try simp only [Act.put, List.setIfInBounds_toArray, List.set_cons_zero, List.set_cons_succ]
      refine wpAnyM_take (i := 3) (v := ?_) (by simp only [List.getElem?_toArray, List.getElem?_cons_succ, List.getElem?_cons_zero]; rfl) (by kernel_rfl) (by kernel_rfl) (by kernel_rfl) (by kernel_rfl) (by exact fun _ _ _ h => h) (Or.inl ⟨by rfl, ?_⟩) HS.out ?_
      rotate_left
      · (intro w' hSw; (try dsimp only at hSw); go_simp; try with_reducible rfl)
      try simp only [Act.put, List.setIfInBounds_toArray, List.set_cons_zero, List.set_cons_succ]
      refine wpAnyM_take (i := 4) (v := ?_) (by simp only [List.getElem?_toArray, List.getElem?_cons_succ, List.getElem?_cons_zero]; rfl) (by kernel_rfl) (by kernel_rfl) (by kernel_rfl) (by kernel_rfl) (by exact fun _ _ _ h => h) (Or.inl ⟨by rfl, ?_⟩) HS.out ?_
      rotate_left
      · (intro w' hSw; (try dsimp only at hSw); go_simp; try with_reducible rfl)
      try simp only [Act.put, List.setIfInBounds_toArray, List.set_cons_zero, List.set_cons_succ]
      refine wpAnyM_take (i := 5) (v := ?_) (by simp only [List.getElem?_toArray, List.getElem?_cons_succ, List.getElem?_cons_zero]; rfl) (by kernel_rfl) (by kernel_rfl) (by kernel_rfl) (by kernel_rfl) (by exact fun _ _ _ h => h) (Or.inl ⟨by rfl, ?_⟩) HS.out ?_
      rotate_left
      · (intro w' hSw; (try dsimp only at hSw); go_simp; try with_reducible rfl)
      try simp only [Act.put, List.setIfInBounds_toArray, List.set_cons_zero, List.set_cons_succ]
      refine wpAnyM_take (i := 6) (v := ?_) (by simp only [List.getElem?_toArray, List.getElem?_cons_succ, List.getElem?_cons_zero]; rfl) (by kernel_rfl) (by kernel_rfl) (by kernel_rfl) (by kernel_rfl) (by exact fun _ _ _ h => h) (Or.inl ⟨by rfl, ?_⟩) HS.out ?_
      rotate_left
      · (intro w' hSw; (try dsimp only at hSw); go_simp; try with_reducible rfl)
      try simp only [Act.put, List.setIfInBounds_toArray, List.set_cons_zero, List.set_cons_succ]
      refine wpAnyM_take (i := 7) (v := ?_) (by simp only [List.getElem?_toArray, List.getElem?_cons_succ, List.getElem?_cons_zero]; rfl) (by kernel_rfl) (by kernel_rfl) (by kernel_rfl) (by kernel_rfl) (by exact fun _ _ _ h => h) (Or.inl ⟨by rfl, ?_⟩) HS.out ?_
      rotate_left
      · (intro w' hSw; (try dsimp only at hSw); go_simp; try with_reducible rfl)
      try simp only [Act.put, List.setIfInBounds_toArray, List.set_cons_zero, List.set_cons_succ]
      refine wpAnyM_take (i := 8) (v := ?_) (by simp only [List.getElem?_toArray, List.getElem?_cons_succ, List.getElem?_cons_zero]; rfl) (by kernel_rfl) (by kernel_rfl) (by kernel_rfl) (by kernel_rfl) (by exact fun _ _ _ h => h) (Or.inl ⟨by rfl, ?_⟩) HS.out ?_
      rotate_left
      · (intro w' hSw; (try dsimp only at hSw); go_simp; try with_reducible rfl)
      try simp only [Act.put, List.setIfInBounds_toArray, List.set_cons_zero, List.set_cons_succ]
      refine wpAnyM_take (i := 9) (v := ?_) (by simp only [List.getElem?_toArray, List.getElem?_cons_succ, List.getElem?_cons_zero]; rfl) (by kernel_rfl) (by kernel_rfl) (by kernel_rfl) (by kernel_rfl) (by exact fun _ _ _ h => h) (Or.inl ⟨by rfl, ?_⟩) HS.out ?_
      rotate_left
      · (intro w' hSw; (try dsimp only at hSw); go_simp; try with_reducible rfl)
      try simp only [Act.put, List.setIfInBounds_toArray, List.set_cons_zero, List.set_cons_succ]
      refine wpAnyM_take (i := 10) (v := ?_) (by simp only [List.getElem?_toArray, List.getElem?_cons_succ, List.getElem?_cons_zero]; rfl) (by kernel_rfl) (by kernel_rfl) (by kernel_rfl) (by kernel_rfl) (by exact fun _ _ _ h => h) (Or.inl ⟨by rfl, ?_⟩) HS.out ?_
      rotate_left
      · (intro w' hSw; (try dsimp only at hSw); go_simp; try with_reducible rfl)
      try simp only [Act.put, List.setIfInBounds_toArray, List.set_cons_zero, List.set_cons_succ]
      refine wpAnyM_take (i := 11) (v := ?_) (by simp only [List.getElem?_toArray, List.getElem?_cons_succ, List.getElem?_cons_zero]; rfl) (by kernel_rfl) (by kernel_rfl) (by kernel_rfl) (by kernel_rfl) (by exact fun _ _ _ h => h) (Or.inl ⟨by rfl, ?_⟩) HS.out ?_
      rotate_left
      · (intro w' hSw; (try dsimp only at hSw); go_simp; try with_reducible rfl)
      try simp only [Act.put, List.setIfInBounds_toArray, List.set_cons_zero, List.set_cons_succ]
      refine wpAnyM_take (i := 12) (v := ?_) (by simp only [List.getElem?_toArray, List.getElem?_cons_succ, List.getElem?_cons_zero]; rfl) (by kernel_rfl) (by kernel_rfl) (by kernel_rfl) (by kernel_rfl) (by exact fun _ _ _ h => h) (Or.inl ⟨by rfl, ?_⟩) HS.out ?_
      rotate_left
      · (intro w' hSw; (try dsimp only at hSw); go_simp; try with_reducible rfl)
      try simp only [Act.put, List.setIfInBounds_toArray, List.set_cons_zero, List.set_cons_succ]
      refine wpAnyM_one (i := 13) (by kernel_rfl) (by simp only [List.getElem?_toArray, List.getElem?_cons_succ, List.getElem?_cons_zero]; rfl) ?_
      go_wp2_with fail
      have h5 := HJ.out.step ((Below.refl _ wd).alloc (Nat.le_refl _) (.cells #[.int .i64 2, .int .i64 (4 * p0), .int .i64 0, .slice p1 p2 p3, .slice none 0 0] 54))
      have hl5 := rc_lit5 (W := wd) [(2, 4 * p0, p1, p2, p3)] 1 rfl (by omega) #[.int .i64 2, .int .i64 (4 * p0), .int .i64 0, .slice p1 p2 p3, .slice none 0 0] 54 rfl
      obtain ⟨NL, hNL⟩ : ∃ X, wd.heap.size = X := ⟨_, rfl⟩
      obtain ⟨W5, hW5⟩ : ∃ X, wd.alloc (.cells #[.int .i64 2, .int .i64 (4 * p0), .int .i64 0, .slice p1 p2 p3, .slice none 0 0] 54) = X := ⟨_, rfl⟩
      rw [hW5] at h5 hl5 ⊢
      rw [hNL] at hl5 ⊢
      have H5j := Aside0.mk (And.intro h5 hl5)
      clear h5 hl5 hW5 hNL
      refine ⟨HSX.out _ H5j.out.1.bel, ?_⟩
      try simp only [Act.put, List.setIfInBounds_toArray, List.set_cons_zero, List.set_cons_succ]
      refine wpAnyM_one (i := 14) (by kernel_rfl) (by simp only [List.getElem?_toArray, List.getElem?_cons_succ, List.getElem?_cons_zero]; rfl) ?_
      refine wpl_ocs N (by rfl) (.tmp 67) (.tmp 80) 57 54 zOp 5 72 (by rfl) Try.underlying57 infoOp rfl (by omega) (by omega) (by omega) Aj (2 + j) cj (some ⟨NL, 0, none⟩) 1 1 _ (ov [(2, 4 * p0, p1, p2, p3)]) (by rfl) (by rfl) H5j.out.1.oc H5j.out.2 H5j.out.1.lo (by omega) (by omega) ?_
      intro A8 c8' W8 hO hG hA
      have H8 := Aside0.mk (H5j.out.1.app (ps := [(2, 4 * p0, p1, p2, p3)]) hO.out hG.out hA.out)
      clear hO hG hA
      refine wpl_nil (And.intro rfl (And.intro (fun _ => HSX.out _ H8.out.bel) ?_))
      try simp only [Act.put, List.setIfInBounds_toArray, List.set_cons_zero, List.set_cons_succ]
      refine wpAnyM_take (i := 15) (v := ?_) (by simp only [List.getElem?_toArray, List.getElem?_cons_succ, List.getElem?_cons_zero]; rfl) (by kernel_rfl) (by kernel_rfl) (by kernel_rfl) (by kernel_rfl) (by exact fun _ _ _ h => h) (Or.inl ⟨by rfl, ?_⟩) (HSX.out _ H8.out.bel) ?_
      rotate_left
      · (intro w' hSw; (try dsimp only at hSw); go_simp; try with_reducible rfl)
      try simp only [Act.put, List.setIfInBounds_toArray, List.set_cons_zero, List.set_cons_succ]
      refine wpAnyM_done (by kernel_rfl) ?_ _
      go_wp2_with fail
      go_roundg (n - (j + 1))
      case measure => have := hk.out; omega
      case rel =>
        refine ⟨j + 1, A8, c8', (by show n - (j + 1) + (j + 1) = n; omega), by go_num, rfl, ⟨?_⟩⟩
        have h9 := H8.out
        rw [List.append_assoc] at h9
        rw [List.take_add_one, HP.out, List.map_append]
        exact h9
    · obtain rfl : n = j := by omega
      have d1 : decide ((n : Int) < (n : Int)) = false := by simp
      have h9 := hI.out
      rw [List.take_of_length_le (by have := HX.out.2.1; omega)] at h9
      have h10 := h9.step ((Below.refl _ wr).alloc (Nat.le_refl _) (.cells #[.int .i64 3, .int .i64 0, .int .i64 0, .slice none 0 0, .slice none 0 0] 54))
      have hl10 := rc_lit5 (W := wr) [(3, 0, none, 0, 0)] 1 rfl (by omega) #[.int .i64 3, .int .i64 0, .int .i64 0, .slice none 0 0, .slice none 0 0] 54 rfl
      have H10 := Aside0.mk (And.intro h10 hl10)
      clear h9 h10 hl10
      go_upto_region 15 with (at_builtin; refine wpl_ocs N (by rfl) (.tmp 82) (.tmp 84) 57 54 zOp 5 72 (by rfl) Try.underlying57 infoOp rfl (by omega) (by omega) (by omega) Aj (2 + n) cj (some ⟨wr.heap.size, 0, none⟩) 1 1 _ (ov [(3, 0, none, 0, 0)]) (by rfl) (by rfl) H10.out.1.oc H10.out.2 H10.out.1.lo (by omega) (by omega) ?_; intro A11 c11 W11 hO hG hA; (have H11 := Aside0.mk (H10.out.1.app (ps := [(3, 0, none, 0, 0)]) hO.out hG.out hA.out)); clear hO hG hA)
      have hr0 := (H11.out.rows (N, bx) (List.mem_cons_of_mem _ (List.mem_cons_of_mem _ List.mem_cons_self))).1
      rw [← HBX.out] at hr0
      obtain ⟨y0, y1, y2, y3, y4, y5, y6, y7⟩ := row8_cells hr0
      clear hr0
      have h12 := H11.out.step ((Below.refl _ W11).alloc (Nat.le_refl _) (.cells #[.int .i64 2, .int .i64 a4, .int .i64 0, .slice (some ⟨g7, 0, none⟩) 256 c7, .slice none 0 0, .int .i64 3, .int .i64 0, .int .i64 0, .slice none 0 0, .slice none 0 0] 54))
      have hl12 := rc_lit5 (W := W11) [(2, a4, some ⟨g7, 0, none⟩, 256, c7), (3, 0, none, 0, 0)] 2 rfl (by omega) #[.int .i64 2, .int .i64 a4, .int .i64 0, .slice (some ⟨g7, 0, none⟩) 256 c7, .slice none 0 0, .int .i64 3, .int .i64 0, .int .i64 0, .slice none 0 0, .slice none 0 0] 54 rfl
      have H12 := Aside0.mk (And.intro h12 hl12)
      clear h12 hl12
      go_wp2_with (at_builtin; refine wpl_ocs N (by rfl) (.tmp 88) (.tmp 96) 57 54 zOp 5 72 (by rfl) Try.underlying57 infoOp rfl (by omega) (by omega) (by omega) A11 (2 + n + 1) c11 (some ⟨W11.heap.size, 0, none⟩) 2 2 _ (ov [(2, a4, some ⟨g7, 0, none⟩, 256, c7), (3, 0, none, 0, 0)]) (by rfl) (by rfl) H12.out.1.oc H12.out.2 H12.out.1.lo (by omega) (by omega) ?_; intro A13 c13 W13 hO hG hA; (have H13 := Aside0.mk (H12.out.1.app (ps := [(2, a4, some ⟨g7, 0, none⟩, 256, c7), (3, 0, none, 0, 0)]) hO.out hG.out hA.out)); clear hO hG hA)
      go_ret
      refine ⟨A13, 2 + n + 1 + 2, c13, rfl, _, H13.out.oc.rc, ?_, by simp [HX.out.2.1]; omega, by rw [hN'.out]; exact H13.out.bel⟩
      have hop : opsL l ⟨ge, ph, tg, tx, rt, pg, li, cu⟩ false = [((0 : Int), p4, ([] : List UInt8))] ++ [(2, a4, List.replicate 256 0)] ++ l.map opl ++ [(3, 0, [])] ++ [(2, a4, en), (3, 0, [])] := by
        unfold opsL
        rw [if_neg (by decide), HEN.out]
        show [((0 : Int), 4 * pg, ([] : List UInt8))] ++ [(2, 4 * (tx % 2), List.replicate 256 0)] ++ l.map opl ++ [(3, 0, [])] ++ [(2, 4 * (tx % 2), en), (3, 0, [])] = _
        rw [HP4.out.1, HA4.out.1]
      rw [hop]
      have r7 := (H13.out.rows (g7, o7) (List.mem_cons_of_mem _ List.mem_cons_self)).1
      have rz := (H13.out.rows (NZ, oz) List.mem_cons_self).1
      have e7 : W13.heap[g7]? = W3.heap[g7]? := r7.trans H3.out.2.2.symm
      have ez : W13.heap[NZ]? = W4.heap[NZ]? := rz.trans H4.out.2.2.symm
      have S3 := QL.one (W := W13) (p := (3, 0, none, 0, 0)) (q := (3, 0, [])) ⟨rfl, rfl, by decide, by decide, .inr (.inr ⟨rfl, rfl, rfl⟩)⟩ (Bs.nil _ _ _ (Nat.zero_le _))
      exact ((((QL.one (p := (0, p4, none, 0, 0)) (q := (0, p4, [])) ⟨rfl, rfl, by have := HP4.out; show -1000000000 ≤ p4; omega, by have := HP4.out; show p4 ≤ 1000000000; omega, .inl ⟨rfl, rfl⟩⟩ (Bs.nil _ _ _ (Nat.zero_le _))).app
        (QL.one (p := (2, a4, some ⟨NZ, 0, none⟩, 256, 256)) (q := (2, a4, List.replicate 256 0)) ⟨rfl, rfl, by have := HA4.out; show -1000000000 ≤ a4; omega, by have := HA4.out; show a4 ≤ 1000000000; omega, .inr (.inl rfl)⟩ (H4.out.2.1.row ez))).app
        (HT.out _ H13.out.bel).2.ql).app S3).app
         ((QL.one (p := (2, a4, some ⟨g7, 0, none⟩, 256, c7)) (q := (2, a4, en)) ⟨rfl, rfl, by have := HA4.out; show -1000000000 ≤ a4; omega, by have := HA4.out; show a4 ≤ 1000000000; omega, .inr (.inl rfl)⟩ (H3.out.2.1.row e7)).app S3)
set_option maxHeartbeats 16000000 in
set_option maxRecDepth 100000 in
theorem rops_format (A : Option Addr) (n c : Nat) (hs : List (Int × Option Addr × Nat × Nat)) (l : List (Int × List UInt8)) (m : MV) (A' : Option Addr) (c' : Nat) (w : World) (hr : Rc w 2 A n c (wv hs)) (hl : hs.length = n) (hh : HWs w hs l) (hm : Bs w A' m.cu.length c' m.cu) (hmr : mrightB m.ge m.ph m.tg m.tx m.rt m.pg m.li m.cu.length = true) (ht : 2 ≤ m.tx) (hn : n ≤ 100000) :
    Calls Try.prog 25 #[.slice A n c, .agg (m.agg A' c'), .bool true] w fun e w' => ∃ O on oc qs, e = .returned (.slice O on oc) ∧ Rc w' 5 O on oc (ov qs) ∧ QL w' qs (opsL l m true) ∧ qs.length = on ∧ Below w.heap.size w w' := by
  obtain ⟨ge, ph, tg, tx, rt, pg, li, cu⟩ := m
  obtain ⟨bx, hbx⟩ : ∃ b : Obj, Obj.cells #[.int .i64 ge, .int .i64 ph, .int .i64 tg, .int .i64 tx, .int .i64 rt, .int .i64 pg, .int .i64 li, .slice A' cu.length c'] 24 = b := ⟨_, rfl⟩
  have hB0 := (Below.refl _ w).alloc (Nat.le_refl _) bx
  have H0 := Aside0.mk (And.intro (heap_alloc_new w bx) (And.intro hB0 (And.intro (hm.below hB0) (by simp : (w.alloc bx).heap.size = w.heap.size + 1))))
  have HX := Aside0.mk (And.intro hr (And.intro hl hh))
  have hcl := hm.lim
  have BD := Aside0.mk (right_bounds hmr)
  have HMR := Aside0.mk hmr
  clear hr hl hh hm hB0
  show Calls Try.prog 25 #[.slice A n c, .agg #[.int .i64 ge, .int .i64 ph, .int .i64 tg, .int .i64 tx, .int .i64 rt, .int .i64 pg, .int .i64 li, .slice A' cu.length c'], .bool true] w _
  simp only at ht
  have wp1 : IntKind.i64.wrap (4 * pg) = 4 * pg := IntWalk.i64_in _ (by have := BD.out; simp only at this; omega)
  obtain ⟨p4, hp4⟩ : ∃ x, 4 * pg = x := ⟨_, rfl⟩
  have wp2 : wrap64 (4 * pg) = 4 * pg := IntWalk.wrap64_in _ (by have := BD.out; simp only at this; omega)
  replace wp1 := wp1.trans hp4
  replace wp2 := wp2.trans hp4
  have HP4 := Aside0.mk (show 4 * pg = p4 ∧ 0 ≤ p4 ∧ p4 ≤ 1000000 by have := BD.out; simp only at this; omega)
  obtain ⟨a4, ha4⟩ : ∃ x, 4 * (tx % 2) = x := ⟨_, rfl⟩
  have HA4 := Aside0.mk (show 4 * (tx % 2) = a4 ∧ 0 ≤ a4 ∧ a4 ≤ 4 by omega)
  have wa1 : tx.tmod 2 = tx % 2 := Int.tmod_eq_emod_of_nonneg (by have := BD.out; simp only at this; omega)
  have wa2 : IntKind.i64.wrap (4 * (tx % 2)) = 4 * (tx % 2) := IntWalk.i64_in _ (by omega)
  obtain ⟨en, hen⟩ : ∃ x, encR ge ph tg tx rt pg li cu = x := ⟨_, rfl⟩
  have HEN := Aside0.mk (show encM ⟨ge, ph, tg, tx, rt, pg, li, cu⟩ = en from (enc_eq HMR.out).trans hen)
  have HEE := Aside0.mk hen
  have HLE := Aside0.mk (show en.length = 256 by rw [← hen]; exact (encR_read HMR.out).1)
  have HMW := Aside0.mk (was_right hmr ht)
  obtain ⟨ew, hew⟩ : ∃ x, encR ge ph tg (tx - 1) rt pg li cu = x := ⟨_, rfl⟩
  have HEW := Aside0.mk (show encM (MV.was ⟨ge, ph, tg, tx, rt, pg, li, cu⟩) = ew from (enc_eq HMW.out).trans hew)
  have HEF := Aside0.mk hew
  have HLW := Aside0.mk (show ew.length = 256 by rw [← hew]; exact (encR_read HMW.out).1)
  obtain ⟨z4, hz4⟩ : ∃ x, 4 * ((tx - 1) % 2) = x := ⟨_, rfl⟩
  have HZ4 := Aside0.mk (show 4 * ((tx - 1) % 2) = z4 ∧ 0 ≤ z4 ∧ z4 ≤ 4 by omega)
  have iw : IntKind.i64.wrap (tx - 1) = tx - 1 := IntWalk.i64_in _ (by have := BD.out; simp only at this; omega)
  have wz1 : (tx - 1).tmod 2 = (tx - 1) % 2 := Int.tmod_eq_emod_of_nonneg (by omega)
  have wz2 : IntKind.i64.wrap (4 * ((tx - 1) % 2)) = 4 * ((tx - 1) % 2) := IntWalk.i64_in _ (by omega)
  have wz3 : wrap64 (4 * ((tx - 1) % 2)) = z4 := (IntWalk.wrap64_in _ (by omega)).trans hz4
  replace wz2 := wz2.trans hz4
  clear ht hew hz4
  have wa3 : wrap64 (4 * (tx % 2)) = 4 * (tx % 2) := IntWalk.wrap64_in _ (by omega)
  replace wa2 := wa2.trans ha4
  replace wa3 := wa3.trans ha4
  clear hmr hen hp4 ha4
  go_enter Try.func25, Try.ntmps25
  go_upto_region 1 with fail
  obtain ⟨w0, hw0⟩ : ∃ X, w.alloc bx = X := ⟨_, rfl⟩
  obtain ⟨N, hN⟩ : ∃ X, w.heap.size = X := ⟨_, rfl⟩
  rw [hw0, hN] at H0
  rw [hw0, hN]
  have hN' := Aside0.mk hN
  have HT := Aside0.mk (show ∀ X : World, Below N w X → Rc X 2 A n c (wv hs) ∧ HWs X hs l from fun X hX => by rw [← hN'.out] at hX; exact ⟨HX.out.1.below hX, HX.out.2.2.below hX⟩)
  have hr0 := H0.out.1
  rw [← hbx] at hr0
  obtain ⟨y0, y1, y2, y3, y4, y5, y6, y7⟩ := row8_cells hr0
  have HBX := Aside0.mk hbx
  have HSN := Aside0.mk (show ∀ X : World, X.heap[N]? = some bx → X.cell? ⟨N, 3, none⟩ = some (.int .i64 tx) from fun X hX => by rw [← HBX.out] at hX; exact (row8_cells hX).2.2.2.1)
  clear hw0 hr0 hbx hN
  go_upto_region 2 with fail
  obtain ⟨N1, hN1⟩ : ∃ X, w0.heap.size = X := ⟨_, rfl⟩
  have hlo1 : N ≤ w0.heap.size := by rw [H0.out.2.2.2]; omega
  have hS1 : OS w N [(N, bx)] [(0, p4, none, 0, 0)] (some ⟨w0.heap.size, 0, none⟩) 1 1 (w0.alloc (.cells #[.int .i64 0, .int .i64 p4, .int .i64 0, .slice none 0 0, .slice none 0 0] 54)) := by
    refine ⟨oc_lit5 N hlo1 [(0, p4, none, 0, 0)] 1 rfl (by omega) _ rfl, H0.out.2.1.alloc hlo1 _, by simp; omega, fun p hp => ?_⟩
    obtain rfl := List.mem_singleton.1 hp
    refine ⟨(Below.heap_alloc _ _ _ (by rw [H0.out.2.2.2]; omega)).trans H0.out.1, fun e => ?_⟩
    injection e with e
    injection e with e
    rw [H0.out.2.2.2] at e
    omega
  rw [hN1] at hS1 ⊢
  obtain ⟨w1, hw1⟩ : ∃ X, w0.alloc (.cells #[.int .i64 0, .int .i64 p4, .int .i64 0, .slice none 0 0, .slice none 0 0] 54) = X := ⟨_, rfl⟩
  have hbm : Bs w1 A' cu.length c' cu := by rw [← hw1]; exact H0.out.2.2.1.alloc _
  rw [hw1] at hS1 ⊢
  have H1 := Aside0.mk (And.intro hS1 hbm)
  clear hS1 hbm hw1 hN1 hlo1 y0 y1 y2 y3 y4 y5 y6 y7
  have hr0 := (H1.out.1.rows _ List.mem_cons_self).1
  rw [← HBX.out] at hr0
  obtain ⟨y0, y1, y2, y3, y4, y5, y6, y7⟩ := row8_cells hr0
  clear hr0
  go_upto_region 3 with (go_at_call 57; refine (rencode_any ge ph tg tx rt pg li A' cu.length c' cu w1 H1.out.2).mono ?_; rintro e w2 ⟨hB, hc⟩; (have hc := hc.resolve_left (fun z => by have := HMR.out; rw [z.1] at this; cases this)); (obtain ⟨_, A7, c7, rfl, hO⟩ := hc); rw [HEE.out, HLE.out] at hO; rw [HEE.out, HLE.out]; (obtain ⟨g7, o7, rfl, hS, ho⟩ := H1.out.1.own hB hO (by omega)); (have H2 := Aside0.mk (And.intro hS (And.intro hO.bs (And.intro ho (H1.out.2.below hB))))); clear hO hB hS ho)
  have hr0 := (H2.out.1.rows (N, bx) (List.mem_cons_of_mem _ List.mem_cons_self)).1
  rw [← HBX.out] at hr0
  clear y0 y1 y2 y3 y4 y5 y6 y7
  obtain ⟨y0, y1, y2, y3, y4, y5, y6, y7⟩ := row8_cells hr0
  clear hr0
  have y3a : (w2.alloc (.cells #[.int .i64 ge, .int .i64 ph, .int .i64 tg, .int .i64 tx, .int .i64 rt, .int .i64 pg, .int .i64 li, .slice A' cu.length c'] 24)).cell? ⟨N, 3, none⟩ = some (.int .i64 tx) := cell_below ((Below.refl _ w2).alloc (Nat.le_refl _) _) y3
  go_upto_region 6 with fail
  clear y3a
  obtain ⟨bw, hbw⟩ : ∃ o, Obj.cells #[.int .i64 ge, .int .i64 ph, .int .i64 tg, .int .i64 (tx - 1), .int .i64 rt, .int .i64 pg, .int .i64 li, .slice A' cu.length c'] 24 = o := ⟨_, rfl⟩
  rw [hbw]
  have hb3 := (Below.refl _ w2).alloc (Nat.le_refl _) bw
  have H3 := Aside0.mk (And.intro (H2.out.1.lit bw) (And.intro (H2.out.2.1.alloc bw) (And.intro ((hb3.block _ (Array.getElem?_eq_some_iff.1 H2.out.2.2.1).1).trans H2.out.2.2.1) (H2.out.2.2.2.below hb3))))
  obtain ⟨NW, hNW⟩ : ∃ X, w2.heap.size = X := ⟨_, rfl⟩
  obtain ⟨w3, hw3⟩ : ∃ X, w2.alloc bw = X := ⟨_, rfl⟩
  rw [hw3, hNW] at H3
  rw [hw3, hNW]
  have HBW := Aside0.mk hbw
  clear hw3 hNW hbw hb3 iw
  have hr0 := (H3.out.1.rows (N, bx) (List.mem_cons_of_mem _ (List.mem_cons_of_mem _ List.mem_cons_self))).1
  rw [← HBX.out] at hr0
  clear y0 y1 y2 y3 y4 y5 y6 y7
  obtain ⟨y0, y1, y2, y3, y4, y5, y6, y7⟩ := row8_cells hr0
  clear hr0
  have hr1 := (H3.out.1.rows (NW, bw) List.mem_cons_self).1
  rw [← HBW.out] at hr1
  obtain ⟨z0, z1, z2, z3, z4', z5, z6, z7⟩ := row8_cells hr1
  clear hr1
  go_upto_region 7 with (go_at_call 57; refine (rencode_any ge ph tg (tx - 1) rt pg li A' cu.length c' cu w3 H3.out.2.2.2).mono ?_; rintro e w4 ⟨hB, hc⟩; (have hc := hc.resolve_left (fun z => by have := HMW.out; rw [z.1] at this; cases this)); (obtain ⟨_, A7, c8, rfl, hO⟩ := hc); rw [HEF.out, HLW.out] at hO; rw [HEF.out, HLW.out]; (obtain ⟨g8, o8, rfl, hS, ho⟩ := H3.out.1.own hB hO (by omega)); (have H4 := Aside0.mk (And.intro hS (And.intro hO.bs (And.intro ho (And.intro (H3.out.2.1.below hB) ((hB.block _ (Array.getElem?_eq_some_iff.1 H3.out.2.2.1).1).trans H3.out.2.2.1)))))); clear hO hB hS ho)
  have hr0 := (H4.out.1.rows (N, bx) (List.mem_cons_of_mem _ (List.mem_cons_of_mem _ (List.mem_cons_of_mem _ List.mem_cons_self)))).1
  rw [← HBX.out] at hr0
  clear y0 y1 y2 y3 y4 y5 y6 y7
  obtain ⟨y0, y1, y2, y3, y4, y5, y6, y7⟩ := row8_cells hr0
  clear hr0
  have hr1 := (H4.out.1.rows (NW, bw) (List.mem_cons_of_mem _ List.mem_cons_self)).1
  rw [← HBW.out] at hr1
  clear z0 z1 z2 z3 z4' z5 z6 z7
  obtain ⟨z0, z1, z2, z3, z4', z5, z6, z7⟩ := row8_cells hr1
  clear hr1
  have hl5 := rc_lit5 (W := w4) [(2, z4, some ⟨g8, 0, none⟩, 256, c8), (2, a4, some ⟨g7, 0, none⟩, 256, c7)] 2 rfl (by omega) #[.int .i64 2, .int .i64 z4, .int .i64 0, .slice (some ⟨g8, 0, none⟩) 256 c8, .slice none 0 0, .int .i64 2, .int .i64 a4, .int .i64 0, .slice (some ⟨g7, 0, none⟩) 256 c7, .slice none 0 0] 54 rfl
  have h5 := H4.out.1.step ((Below.refl _ w4).alloc (Nat.le_refl _) (.cells #[.int .i64 2, .int .i64 z4, .int .i64 0, .slice (some ⟨g8, 0, none⟩) 256 c8, .slice none 0 0, .int .i64 2, .int .i64 a4, .int .i64 0, .slice (some ⟨g7, 0, none⟩) 256 c7, .slice none 0 0] 54))
  have H5 := Aside0.mk (And.intro h5 hl5)
  clear h5 hl5
  go_upto_region 8 with (at_builtin; refine wpl_ocs N (by rfl) (.tmp 35) (.tmp 48) 57 54 zOp 5 72 (by rfl) Try.underlying57 infoOp rfl (by omega) (by omega) (by omega) (some ⟨N1, 0, none⟩) 1 1 (some ⟨w4.heap.size, 0, none⟩) 2 2 (ov [(0, p4, none, 0, 0)]) (ov [(2, z4, some ⟨g8, 0, none⟩, 256, c8), (2, a4, some ⟨g7, 0, none⟩, 256, c7)]) (by rfl) (by rfl) H5.out.1.oc H5.out.2 H5.out.1.lo (by omega) (by omega) ?_; intro A6 c6 W6 hO hG hA; (have H6 := Aside0.mk (H5.out.1.app (ps := [(2, z4, some ⟨g8, 0, none⟩, 256, c8), (2, a4, some ⟨g7, 0, none⟩, 256, c7)]) hO.out hG.out hA.out)); clear hO hG hA)
  clear y0 y1 y2 y3 y4 y5 y6 y7 z0 z1 z2 z3 z4' z5 z6 z7
  go_wp2_with fail
  go_loopg [7, 13] n (fun gk v7 v13 wr => ∃ (j : Nat) (Aj : Option Addr) (cj : Nat), Aside (gk + j = n) ∧ v13 = .int .i64 (j : Int) ∧ v7 = .slice Aj (3 + j) cj ∧ Aside0 (OS w N [(g8, o8), (NW, bw), (g7, o7), (N, bx)] (([(0, p4, none, 0, 0)] ++ [(2, z4, some ⟨g8, 0, none⟩, 256, c8), (2, a4, some ⟨g7, 0, none⟩, 256, c7)]) ++ (hs.take j).map opp) Aj (3 + j) cj wr))
  case atStart => exact ⟨0, A6, c6, rfl, rfl, rfl, ⟨by rw [List.take_zero, List.map_nil, List.append_nil]; exact H6.out⟩⟩
  case round =>
    obtain ⟨j, Aj, cj, hk, rfl, rfl, hI⟩ := hrel
    have hjm : j ≤ n := by have := hk.out; omega
    rcases Nat.lt_or_ge j n with hlt | hge
    · have d1 : decide ((j : Int) < (n : Int)) = true := decide_eq_true (by omega)
      have hjn : (j : Int) < (n : Int) := by omega
      obtain ⟨ad, p, rfl, hp, c0, c1⟩ := (HT.out _ hI.out.bel).1.two HX.out.2.1 j hlt
      obtain ⟨q, hq, hqe, hq0, hq1, hqb⟩ := (HT.out _ hI.out.bel).2.each j p hp
      obtain ⟨p0, p1, p2, p3⟩ := p
      simp only at hqe c0 c1
      have iw4 : IntKind.i64.wrap (4 * p0) = 4 * p0 := IntWalk.i64_in _ (by omega)
      have iw5 : wrap64 (4 * p0) = 4 * p0 := IntWalk.wrap64_in _ (by omega)
      have HP := Aside0.mk hp
      clear hp hq hqe hq0 hq1 hqb
      have hJ := hI.out.step (below_drew (Below.refl _ _))
      go_upto_region 13 with fail
      have HS := Aside0.mk (show wr.drew.cell? (ad.add (j * 2)) = some (.int .i64 p0) ∧ wr.drew.cell? ⟨(ad.add (j * 2)).block, (ad.add (j * 2)).off + 1, none⟩ = some (.slice p1 p2 p3) from ⟨c0, c1⟩)
      obtain ⟨wd, hwd⟩ : ∃ X, wr.drew = X := ⟨_, rfl⟩
      rw [hwd] at hJ HS
      have HJ := Aside0.mk hJ
      have HSX := Aside0.mk (show ∀ X : World, Below N w X → X.cell? (ad.add (j * 2)) = some (.int .i64 p0) ∧ X.cell? ⟨(ad.add (j * 2)).block, (ad.add (j * 2)).off + 1, none⟩ = some (.slice p1 p2 p3) from fun X hX => by
        obtain ⟨ad', p', e, hp', e0, e1⟩ := (HT.out X hX).1.two HX.out.2.1 j hlt
        injection e with e
        subst e
        rw [HP.out] at hp'
        injection hp' with hp'
        subst hp'
        exact ⟨e0, e1⟩)
      clear hJ c0 c1
      refine wp_region_M (fun j => decide (j < 16)) (fun w' => w'.cell? (ad.add (j * 2)) = some (.int .i64 p0) ∧ w'.cell? ⟨(ad.add (j * 2)).block, (ad.add (j * 2)).off + 1, none⟩ = some (.slice p1 p2 p3)) (by kernel_rfl) ?_
      rw [hwd]
      clear hwd
      refine wpAnyM_take (i := 0) (v := ?_) (by simp only [List.getElem?_toArray, List.getElem?_cons_succ, List.getElem?_cons_zero]; rfl) (by kernel_rfl) (by kernel_rfl) (by kernel_rfl) (by kernel_rfl) (by exact fun _ _ _ h => h) (Or.inl ⟨by rfl, ?_⟩) HS.out ?_
      rotate_left
      · (intro w' hSw; (try dsimp only at hSw); go_simp; try with_reducible rfl)
      try simp only [Act.put, List.setIfInBounds_toArray, List.set_cons_zero, List.set_cons_succ]
      refine wpAnyM_take (i := 1) (v := ?_) (by simp only [List.getElem?_toArray, List.getElem?_cons_succ, List.getElem?_cons_zero]; rfl) (by kernel_rfl) (by kernel_rfl) (by kernel_rfl) (by kernel_rfl) (by exact fun _ _ _ h => h) (Or.inl ⟨by rfl, ?_⟩) HS.out ?_
      rotate_left
      · (intro w' hSw; (try dsimp only at hSw); go_simp; try with_reducible rfl)
      try simp only [Act.put, List.setIfInBounds_toArray, List.set_cons_zero, List.set_cons_succ]
      refine wpAnyM_take (i := 2) (v := ?_) (by simp only [List.getElem?_toArray, List.getElem?_cons_succ, List.getElem?_cons_zero]; rfl) (by kernel_rfl) (by kernel_rfl) (by kernel_rfl) (by kernel_rfl) (by exact fun _ _ _ h => h) (Or.inl ⟨by rfl, ?_⟩) HS.out ?_
      rotate_left
      · (intro w' hSw; (try dsimp only at hSw); go_simp; try with_reducible rfl)
      try simp only [Act.put, List.setIfInBounds_toArray, List.set_cons_zero, List.set_cons_succ]
      refine wpAnyM_take (i := 3) (v := ?_) (by simp only [List.getElem?_toArray, List.getElem?_cons_succ, List.getElem?_cons_zero]; rfl) (by kernel_rfl) (by kernel_rfl) (by kernel_rfl) (by kernel_rfl) (by exact fun _ _ _ h => h) (Or.inl ⟨by rfl, ?_⟩) HS.out ?_
      rotate_left
      · (intro w' hSw; (try dsimp only at hSw); go_simp; try with_reducible rfl)
      try simp only [Act.put, List.setIfInBounds_toArray, List.set_cons_zero, List.set_cons_succ]
      refine wpAnyM_take (i := 4) (v := ?_) (by simp only [List.getElem?_toArray, List.getElem?_cons_succ, List.getElem?_cons_zero]; rfl) (by kernel_rfl) (by kernel_rfl) (by kernel_rfl) (by kernel_rfl) (by exact fun _ _ _ h => h) (Or.inl ⟨by rfl, ?_⟩) HS.out ?_
      rotate_left
      · (intro w' hSw; (try dsimp only at hSw); go_simp; try with_reducible rfl)
      try simp only [Act.put, List.setIfInBounds_toArray, List.set_cons_zero, List.set_cons_succ]
      refine wpAnyM_take (i := 5) (v := ?_) (by simp only [List.getElem?_toArray, List.getElem?_cons_succ, List.getElem?_cons_zero]; rfl) (by kernel_rfl) (by kernel_rfl) (by kernel_rfl) (by kernel_rfl) (by exact fun _ _ _ h => h) (Or.inl ⟨by rfl, ?_⟩) HS.out ?_
      rotate_left
      · (intro w' hSw; (try dsimp only at hSw); go_simp; try with_reducible rfl)
      try simp only [Act.put, List.setIfInBounds_toArray, List.set_cons_zero, List.set_cons_succ]
      refine wpAnyM_take (i := 6) (v := ?_) (by simp only [List.getElem?_toArray, List.getElem?_cons_succ, List.getElem?_cons_zero]; rfl) (by kernel_rfl) (by kernel_rfl) (by kernel_rfl) (by kernel_rfl) (by exact fun _ _ _ h => h) (Or.inl ⟨by rfl, ?_⟩) HS.out ?_
      rotate_left
      · (intro w' hSw; (try dsimp only at hSw); go_simp; try with_reducible rfl)
      try simp only [Act.put, List.setIfInBounds_toArray, List.set_cons_zero, List.set_cons_succ]
      refine wpAnyM_take (i := 7) (v := ?_) (by simp only [List.getElem?_toArray, List.getElem?_cons_succ, List.getElem?_cons_zero]; rfl) (by kernel_rfl) (by kernel_rfl) (by kernel_rfl) (by kernel_rfl) (by exact fun _ _ _ h => h) (Or.inl ⟨by rfl, ?_⟩) HS.out ?_
      rotate_left
      · (intro w' hSw; (try dsimp only at hSw); go_simp; try with_reducible rfl)
      try simp only [Act.put, List.setIfInBounds_toArray, List.set_cons_zero, List.set_cons_succ]
      refine wpAnyM_take (i := 8) (v := ?_) (by simp only [List.getElem?_toArray, List.getElem?_cons_succ, List.getElem?_cons_zero]; rfl) (by kernel_rfl) (by kernel_rfl) (by kernel_rfl) (by kernel_rfl) (by exact fun _ _ _ h => h) (Or.inl ⟨by rfl, ?_⟩) HS.out ?_
      rotate_left
      · (intro w' hSw; (try dsimp only at hSw); go_simp; try with_reducible rfl)
      try simp only [Act.put, List.setIfInBounds_toArray, List.set_cons_zero, List.set_cons_succ]
      refine wpAnyM_take (i := 9) (v := ?_) (by simp only [List.getElem?_toArray, List.getElem?_cons_succ, List.getElem?_cons_zero]; rfl) (by kernel_rfl) (by kernel_rfl) (by kernel_rfl) (by kernel_rfl) (by exact fun _ _ _ h => h) (Or.inl ⟨by rfl, ?_⟩) HS.out ?_
      rotate_left
      · (intro w' hSw; (try dsimp only at hSw); go_simp; try with_reducible rfl)
      try simp only [Act.put, List.setIfInBounds_toArray, List.set_cons_zero, List.set_cons_succ]
      refine wpAnyM_take (i := 10) (v := ?_) (by simp only [List.getElem?_toArray, List.getElem?_cons_succ, List.getElem?_cons_zero]; rfl) (by kernel_rfl) (by kernel_rfl) (by kernel_rfl) (by kernel_rfl) (by exact fun _ _ _ h => h) (Or.inl ⟨by rfl, ?_⟩) HS.out ?_
      rotate_left
      · (intro w' hSw; (try dsimp only at hSw); go_simp; try with_reducible rfl)
      try simp only [Act.put, List.setIfInBounds_toArray, List.set_cons_zero, List.set_cons_succ]
      refine wpAnyM_take (i := 11) (v := ?_) (by simp only [List.getElem?_toArray, List.getElem?_cons_succ, List.getElem?_cons_zero]; rfl) (by kernel_rfl) (by kernel_rfl) (by kernel_rfl) (by kernel_rfl) (by exact fun _ _ _ h => h) (Or.inl ⟨by rfl, ?_⟩) HS.out ?_
      rotate_left
      · (intro w' hSw; (try dsimp only at hSw); go_simp; try with_reducible rfl)
      try simp only [Act.put, List.setIfInBounds_toArray, List.set_cons_zero, List.set_cons_succ]
      refine wpAnyM_take (i := 12) (v := ?_) (by simp only [List.getElem?_toArray, List.getElem?_cons_succ, List.getElem?_cons_zero]; rfl) (by kernel_rfl) (by kernel_rfl) (by kernel_rfl) (by kernel_rfl) (by exact fun _ _ _ h => h) (Or.inl ⟨by rfl, ?_⟩) HS.out ?_
      rotate_left
      · (intro w' hSw; (try dsimp only at hSw); go_simp; try with_reducible rfl)
      try simp only [Act.put, List.setIfInBounds_toArray, List.set_cons_zero, List.set_cons_succ]
      refine wpAnyM_one (i := 13) (by kernel_rfl) (by simp only [List.getElem?_toArray, List.getElem?_cons_succ, List.getElem?_cons_zero]; rfl) ?_
      go_wp2_with fail
      have h5 := HJ.out.step ((Below.refl _ wd).alloc (Nat.le_refl _) (.cells #[.int .i64 2, .int .i64 (4 * p0), .int .i64 0, .slice p1 p2 p3, .slice none 0 0] 54))
      have hl5 := rc_lit5 (W := wd) [(2, 4 * p0, p1, p2, p3)] 1 rfl (by omega) #[.int .i64 2, .int .i64 (4 * p0), .int .i64 0, .slice p1 p2 p3, .slice none 0 0] 54 rfl
      obtain ⟨NL, hNL⟩ : ∃ X, wd.heap.size = X := ⟨_, rfl⟩
      obtain ⟨W5, hW5⟩ : ∃ X, wd.alloc (.cells #[.int .i64 2, .int .i64 (4 * p0), .int .i64 0, .slice p1 p2 p3, .slice none 0 0] 54) = X := ⟨_, rfl⟩
      rw [hW5] at h5 hl5 ⊢
      rw [hNL] at hl5 ⊢
      have H5j := Aside0.mk (And.intro h5 hl5)
      clear h5 hl5 hW5 hNL
      refine ⟨HSX.out _ H5j.out.1.bel, ?_⟩
      try simp only [Act.put, List.setIfInBounds_toArray, List.set_cons_zero, List.set_cons_succ]
      refine wpAnyM_one (i := 14) (by kernel_rfl) (by simp only [List.getElem?_toArray, List.getElem?_cons_succ, List.getElem?_cons_zero]; rfl) ?_
      refine wpl_ocs N (by rfl) (.tmp 67) (.tmp 80) 57 54 zOp 5 72 (by rfl) Try.underlying57 infoOp rfl (by omega) (by omega) (by omega) Aj (3 + j) cj (some ⟨NL, 0, none⟩) 1 1 _ (ov [(2, 4 * p0, p1, p2, p3)]) (by rfl) (by rfl) H5j.out.1.oc H5j.out.2 H5j.out.1.lo (by omega) (by omega) ?_
      intro A8 c8' W8 hO hG hA
      have H8 := Aside0.mk (H5j.out.1.app (ps := [(2, 4 * p0, p1, p2, p3)]) hO.out hG.out hA.out)
      clear hO hG hA
      refine wpl_nil (And.intro rfl (And.intro (fun _ => HSX.out _ H8.out.bel) ?_))
      try simp only [Act.put, List.setIfInBounds_toArray, List.set_cons_zero, List.set_cons_succ]
      refine wpAnyM_take (i := 15) (v := ?_) (by simp only [List.getElem?_toArray, List.getElem?_cons_succ, List.getElem?_cons_zero]; rfl) (by kernel_rfl) (by kernel_rfl) (by kernel_rfl) (by kernel_rfl) (by exact fun _ _ _ h => h) (Or.inl ⟨by rfl, ?_⟩) (HSX.out _ H8.out.bel) ?_
      rotate_left
      · (intro w' hSw; (try dsimp only at hSw); go_simp; try with_reducible rfl)
      try simp only [Act.put, List.setIfInBounds_toArray, List.set_cons_zero, List.set_cons_succ]
      refine wpAnyM_done (by kernel_rfl) ?_ _
      go_wp2_with fail
      go_roundg (n - (j + 1))
      case measure => have := hk.out; omega
      case rel =>
        refine ⟨j + 1, A8, c8', (by show n - (j + 1) + (j + 1) = n; omega), by go_num, rfl, ⟨?_⟩⟩
        have h9 := H8.out
        rw [List.append_assoc] at h9
        rw [List.take_add_one, HP.out, List.map_append]
        exact h9
    · obtain rfl : n = j := by omega
      have d1 : decide ((n : Int) < (n : Int)) = false := by simp
      have h9 := hI.out
      rw [List.take_of_length_le (by have := HX.out.2.1; omega)] at h9
      have h10 := h9.step ((Below.refl _ wr).alloc (Nat.le_refl _) (.cells #[.int .i64 3, .int .i64 0, .int .i64 0, .slice none 0 0, .slice none 0 0] 54))
      have hl10 := rc_lit5 (W := wr) [(3, 0, none, 0, 0)] 1 rfl (by omega) #[.int .i64 3, .int .i64 0, .int .i64 0, .slice none 0 0, .slice none 0 0] 54 rfl
      have H10 := Aside0.mk (And.intro h10 hl10)
      clear h9 h10 hl10
      go_upto_region 15 with (at_builtin; refine wpl_ocs N (by rfl) (.tmp 82) (.tmp 84) 57 54 zOp 5 72 (by rfl) Try.underlying57 infoOp rfl (by omega) (by omega) (by omega) Aj (3 + n) cj (some ⟨wr.heap.size, 0, none⟩) 1 1 _ (ov [(3, 0, none, 0, 0)]) (by rfl) (by rfl) H10.out.1.oc H10.out.2 H10.out.1.lo (by omega) (by omega) ?_; intro A11 c11 W11 hO hG hA; (have H11 := Aside0.mk (H10.out.1.app (ps := [(3, 0, none, 0, 0)]) hO.out hG.out hA.out)); clear hO hG hA)
      go_wp2_with fail
      go_ret
      refine ⟨A11, 3 + n + 1, c11, _, rfl, H11.out.oc.rc, ?_, by simp [HX.out.2.1]; omega, by rw [hN'.out]; exact H11.out.bel⟩
      have hop : opsL l ⟨ge, ph, tg, tx, rt, pg, li, cu⟩ true = [((0 : Int), p4, ([] : List UInt8))] ++ [(2, z4, ew), (2, a4, en)] ++ l.map opl ++ [(3, 0, [])] := by
        unfold opsL
        rw [if_pos rfl, HEN.out, HEW.out]
        show [((0 : Int), 4 * pg, ([] : List UInt8))] ++ [(2, 4 * ((tx - 1) % 2), ew), (2, 4 * (tx % 2), en)] ++ l.map opl ++ [(3, 0, [])] = _
        rw [HP4.out.1, HZ4.out.1, HA4.out.1]
      rw [hop]
      have r7 := (H11.out.rows (g7, o7) (List.mem_cons_of_mem _ (List.mem_cons_of_mem _ List.mem_cons_self))).1
      have r8 := (H11.out.rows (g8, o8) List.mem_cons_self).1
      have e7 : W11.heap[g7]? = w4.heap[g7]? := r7.trans H4.out.2.2.2.2.symm
      have e8 : W11.heap[g8]? = w4.heap[g8]? := r8.trans H4.out.2.2.1.symm
      exact (((QL.one (p := (0, p4, none, 0, 0)) (q := (0, p4, [])) ⟨rfl, rfl, by have := HP4.out; show -1000000000 ≤ p4; omega, by have := HP4.out; show p4 ≤ 1000000000; omega, .inl ⟨rfl, rfl⟩⟩ (Bs.nil _ _ _ (Nat.zero_le _))).app
        ((QL.one (p := (2, z4, some ⟨g8, 0, none⟩, 256, c8)) (q := (2, z4, ew)) ⟨rfl, rfl, by have := HZ4.out; show -1000000000 ≤ z4; omega, by have := HZ4.out; show z4 ≤ 1000000000; omega, .inr (.inl rfl)⟩ (H4.out.2.1.row e8)).app
         (QL.one (p := (2, a4, some ⟨g7, 0, none⟩, 256, c7)) (q := (2, a4, en)) ⟨rfl, rfl, by have := HA4.out; show -1000000000 ≤ a4; omega, by have := HA4.out; show a4 ≤ 1000000000; omega, .inr (.inl rfl)⟩ (H4.out.2.2.2.1.row e7)))).app
        (HT.out _ H11.out.bel).2.ql).app (QL.one (p := (3, 0, none, 0, 0)) (q := (3, 0, [])) ⟨rfl, rfl, by decide, by decide, .inr (.inr ⟨rfl, rfl, rfl⟩)⟩ (Bs.nil _ _ _ (Nat.zero_le _)))
end Go.Proofs.Ythhalmjapiempaa
