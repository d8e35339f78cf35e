/- The walks of a node's leaf, rooms, Room, Fits. -/
import Derived.Test.YtbjfklgmbeaaoaaGreatK8
set_option linter.unusedVariables false
set_option linter.unusedSimpArgs false
namespace Go.Proofs.YtbjfklgmbeaaoaaGreat
open Go.RowKit

theorem heap_two (w : World) (a b : Obj) : ((w.alloc a).alloc b).heap[w.heap.size + 1]? = some b := by
  have := heap_alloc_new (w.alloc a) b
  rwa [show (w.alloc a).heap.size = w.heap.size + 1 by simp] at this
theorem below_two (w : World) (a b : Obj) : Below w.heap.size w ((w.alloc a).alloc b) := ((Below.refl w.heap.size w).alloc (Nat.le_refl _) a).alloc (by simp) b
def leafB (g : Int) (v : NV) : Bool := decide (v.kids.length = 0) && !(v.items.any (wrongB g))
theorem nd_cells {W : World} {g : Nat} {T : TypeId} {a b c : Value} (q : W.heap[g]? = some (.cells #[a, b, c] T)) : W.cell? ⟨g, 0, none⟩ = some a ∧ W.cell? ⟨g, 1, none⟩ = some b ∧ W.cell? ⟨g, 2, none⟩ = some c :=
  ⟨by rw [cell_of_row _ _ _ _ _ _ q]; rfl, by rw [cell_of_row _ _ _ _ _ _ q]; rfl, by rw [cell_of_row _ _ _ _ _ _ q]; rfl⟩
set_option maxHeartbeats 1600000 in
set_option maxRecDepth 100000 in
theorem leaf_any (h : NH) (is : List IH) (ks : List KH) (v : NV) (g : Int) (w : World) (hn : Nd w h is ks v) :
    Calls Tryz.prog 63 #[.agg (nhv h), .int .i64 g] w fun e w' => e = .returned (.bool (leafB g v)) ∧ Below w.heap.size w w' := by
  obtain ⟨lf, ⟨IA, In, Ic⟩, ⟨KA, Kn, Kc⟩⟩ := h
  obtain ⟨lf', items, kids⟩ := v
  have hB := below_two w (.cells #[.bool lf, .slice IA In Ic, .slice KA Kn Kc] 28) (.cells #[.int .i64 g] 3)
  have H0 := Aside0.mk (And.intro (hn.below hB) (And.intro (((Below.refl _ (w.alloc (.cells #[.bool lf, .slice IA In Ic, .slice KA Kn Kc] 28))).alloc (Nat.le_refl _) (.cells #[.int .i64 g] 3)).block _ (by simp) |>.trans (heap_alloc_new w (.cells #[.bool lf, .slice IA In Ic, .slice KA Kn Kc] 28))) (And.intro (heap_two w (.cells #[.bool lf, .slice IA In Ic, .slice KA Kn Kc] 28) (.cells #[.int .i64 g] 3)) hB)))
  have hkl : kids.length = Kn := by rw [← hn.kds.len]; exact hn.lk
  have HKL := Aside0.mk hkl
  clear hn hB
  show Calls Tryz.prog 63 #[.agg #[.bool lf, .slice IA In Ic, .slice KA Kn Kc], .int .i64 g] w _
  go_enter Tryz.func63, Tryz.ntmps63
  go_upto_region 1 with fail
  obtain ⟨w0, hw0⟩ : ∃ X, (w.alloc (.cells #[.bool lf, .slice IA In Ic, .slice KA Kn Kc] 28)).alloc (.cells #[.int .i64 g] 3) = X := ⟨_, rfl⟩
  obtain ⟨G, hG⟩ : ∃ X, w.heap.size + 1 = X := ⟨_, rfl⟩
  obtain ⟨N, hN⟩ : ∃ X, w.heap.size = X := ⟨_, rfl⟩
  rw [hw0, hG, hN] at H0
  rw [hw0, hG, hN]
  have HN := Aside0.mk hN
  clear hw0 hG hN
  obtain ⟨y0, y1, y2⟩ := nd_cells H0.out.2.1
  have hg : w0.cell? ⟨G, 0, none⟩ = some (.int .i64 g) := by rw [cell_of_row _ _ _ _ _ _ H0.out.2.2.1]; rfl
  have HG := Aside0.mk hg
  obtain ⟨b, hb⟩ : ∃ b, items.any (wrongB g) = b := ⟨_, rfl⟩
  have HBV := Aside0.mk hb
  clear hb
  by_cases q : Kn = 0
  · subst q
    have HL := Aside0.mk (show leafB g ⟨lf', items, kids⟩ = !b by unfold leafB; simp only [HKL.out, HBV.out, decide_true, Bool.true_and])
    clear hkl
    cases b with
    | true =>
      go_wp2_with (go_at_call 32; refine (wrongc_any IA In Ic is items g G w0 H0.out.1.ri H0.out.1.li H0.out.1.its HG.out).mono ?_; rintro e w1 ⟨rfl, hB⟩; rw [HBV.out]; (have H1 := Aside0.mk hB); clear hB)
      go_ret
      rw [HL.out, HN.out]
      exact ⟨rfl, below_then H0.out.2.2.2 (by have := H0.out.2.2.2.size; rw [← HN.out]; exact this) H1.out⟩
    | false =>
      go_wp2_with (go_at_call 32; refine (wrongc_any IA In Ic is items g G w0 H0.out.1.ri H0.out.1.li H0.out.1.its HG.out).mono ?_; rintro e w1 ⟨rfl, hB⟩; rw [HBV.out]; (have H1 := Aside0.mk hB); clear hB)
      go_ret
      rw [HL.out, HN.out]
      exact ⟨rfl, below_then H0.out.2.2.2 (by have := H0.out.2.2.2.size; rw [← HN.out]; exact this) H1.out⟩
  · have g1 : ((Kn : Int) == 0) = false := beq_eq_false_iff_ne.2 (by omega)
    have HL := Aside0.mk (show leafB g ⟨lf', items, kids⟩ = false by unfold leafB; simp only [HKL.out, decide_eq_false q, Bool.false_and])
    clear hkl q
    go_wp2_with fail
    go_ret
    rw [HL.out, HN.out]
    exact ⟨rfl, H0.out.2.2.2⟩
def roomsL (g : Int) (v : NV) : List Int := if v.leaf = true then v.items.map (fun q => roomI g q.k.length q.v.length q.r) else v.kids.map (fun q => kidI g q.k.length)
theorem infoI1 : (Tryz.prog.info? 3).map (fun i => (i.zero, i.size, i.bytes)) = some (some (.int .i64 0), 1, 8) := by kernel_rfl
set_option maxHeartbeats 1600000 in
set_option maxRecDepth 100000 in
theorem rooms_any (h : NH) (is : List IH) (ks : List KH) (v : NV) (g : Int) (w : World) (hn : Nd w h is ks v) :
    Calls Tryz.prog 96 #[.agg (nhv h), .int .i64 g] w fun e w' => ∃ A n c, e = .returned (.slice A n c) ∧ Rc w' 1 A n c (iv (roomsL g v)) ∧ n ≤ 1000 ∧ Below w.heap.size w w' := by
  obtain ⟨lf, ⟨IA, In, Ic⟩, ⟨KA, Kn, Kc⟩⟩ := h
  obtain ⟨lf', items, kids⟩ := v
  have hlf : lf = lf' := hn.leaf
  subst hlf
  have hri := hn.ri.lim
  have hrk := hn.rk.lim
  have h0B := (Below.refl _ w).alloc (Nat.le_refl _) (.cells #[.bool lf, .slice IA In Ic, .slice KA Kn Kc] 28)
  have H0 := Aside0.mk (And.intro (hn.below h0B) (And.intro (heap_alloc_new w (.cells #[.bool lf, .slice IA In Ic, .slice KA Kn Kc] 28)) (And.intro h0B (show (w.alloc (.cells #[.bool lf, .slice IA In Ic, .slice KA Kn Kc] 28)).heap.size = w.heap.size + 1 by simp))))
  clear hn h0B
  show Calls Tryz.prog 96 #[.agg #[.bool lf, .slice IA In Ic, .slice KA Kn Kc], .int .i64 g] w _
  go_enter Tryz.func96, Tryz.ntmps96
  go_upto_region 1 with fail
  obtain ⟨w0, hw0⟩ : ∃ X, w.alloc (.cells #[.bool lf, .slice IA In Ic, .slice KA Kn Kc] 28) = X := ⟨_, rfl⟩
  obtain ⟨N, hN⟩ : ∃ X, w.heap.size = X := ⟨_, rfl⟩
  rw [hw0, hN] at H0
  rw [hw0, hN]
  have HN := Aside0.mk hN
  clear hw0 hN
  obtain ⟨y0, y1, y2⟩ := nd_cells H0.out.2.1
  have HT := Aside0.mk (show ∀ X : World, Below w0.heap.size w0 X → Nd X ⟨lf, (IA, In, Ic), (KA, Kn, Kc)⟩ is ks ⟨lf, items, kids⟩ from fun X hX => H0.out.1.below hX)
  have hli : is.length = In := H0.out.1.li
  have hlk : ks.length = Kn := H0.out.1.lk
  have HLL := Aside0.mk (And.intro hli hlk)
  clear hli hlk
  cases lf with
  | true =>
    go_wp2_with fail
    clear y0 y1 y2
    go_loopg [5, 15] In (fun gk v5 v15 wr => ∃ (j : Nat) (A1 : Option Addr) (c1 : Nat), Aside (gk + j = In) ∧ v15 = .int .i64 (j : Int) ∧ v5 = .slice A1 j c1 ∧ Aside0 (Oc wr w0.heap.size 3 1 A1 j c1 (iv ((items.take j).map (fun q => roomI g q.k.length q.v.length q.r))) ∧ Below w0.heap.size w0 wr))
    case atStart => exact ⟨0, none, 0, rfl, rfl, rfl, ⟨Oc.nil _ _ _ _, Below.refl _ _⟩⟩
    case round =>
      obtain ⟨j, A1, cc, hk, rfl, rfl, hI⟩ := hrel
      have hjm : j ≤ In := by have := hk.out; omega
      rcases Nat.lt_or_ge j In with hlt | hge
      · have d1 : decide ((j : Int) < (In : Int)) = true := decide_eq_true (by omega)
        have hjn : (j : Int) < (In : Int) := by omega
        obtain ⟨ad, p, e0, hp, c0, c1, c2, c3⟩ := (HT.out _ hI.out.2).ri.item (HT.out _ hI.out.2).li j hlt
        obtain ⟨q, hq, bk, bv, es, er⟩ := (HT.out _ hI.out.2).its.each j p hp
        simp only at e0
        subst e0
        obtain ⟨⟨pk, pkn, pkc⟩, ⟨pv, pvn, pvc⟩, ps, pr⟩ := p
        obtain ⟨qk, qv, qs, qr⟩ := q
        unfold shv at c0 c1
        unfold Bsh at bk bv
        simp only at c0 c1 c2 c3 bk bv es er
        subst es er
        have HQ := Aside0.mk (And.intro hq (And.intro bk bv))
        clear hp hq bk bv
        go_upto_region 6 with fail
        have hB5 := (Below.refl _ wr).alloc (Nat.le_refl _) (.cells #[.slice pk pkn pkc, .slice pv pvn pvc, .int .i64 ps, .int .i64 pr] 44)
        have H5 := Aside0.mk (And.intro (hI.out.1.below hB5) (And.intro (below_then hI.out.2 hI.out.2.size hB5) (heap_alloc_new wr (.cells #[.slice pk pkn pkc, .slice pv pvn pvc, .int .i64 ps, .int .i64 pr] 44))))
        obtain ⟨w5, hw5⟩ : ∃ X, wr.alloc (.cells #[.slice pk pkn pkc, .slice pv pvn pvc, .int .i64 ps, .int .i64 pr] 44) = X := ⟨_, rfl⟩
        obtain ⟨M, hM⟩ : ∃ X, wr.heap.size = X := ⟨_, rfl⟩
        rw [hw5, hM] at H5
        rw [hw5, hM]
        obtain ⟨z0, z1, z2, z3⟩ := item_cells2 H5.out.2.2
        clear hB5 hw5 hM c0 c1 c2 c3
        go_wp2_with (first
          | (go_at_call 100; refine (room_any g pk pkn pkc pv pvn pvc ps pr w5 HQ.out.2.1.lim HQ.out.2.2.lim).mono ?_; rintro e w6 ⟨rfl, hB⟩; (have H6 := Aside0.mk (And.intro (H5.out.1.below hB) (below_then H5.out.2.1 H5.out.2.1.size hB))); clear hB)
          | (at_builtin; refine wpl_oc w0.heap.size rfl _ _ 118 3 (.int .i64 0) 1 8 rfl Tryz.underlying118 infoI1 rfl (by omega) (by omega) (by omega) A1 j _ w6.heap.size (iv ((items.take j).map (fun q => roomI g q.k.length q.v.length q.r))) [.int .i64 (roomI g pkn pvn pr)] rfl rfl (H6.out.1.below ((Below.refl _ w6).alloc (Nat.le_refl _) _)) rfl (lit1_range _ _) (iv_one [roomI g pkn pvn pr]) (by have := H6.out.2.size; simp; omega) (by omega) ?_; intro A2 c2 w7 hO hG hA))
        go_roundg (In - (j + 1))
        case measure => have := hk.out; omega
        case rel =>
          refine ⟨j + 1, A2, c2, (by show In - (j + 1) + (j + 1) = In; omega), by go_num, rfl, ⟨?_, ?_⟩⟩
          · have := hO.out
            rw [List.take_add_one, HQ.out.1, Option.toList_some, List.map_append, iv_app, List.map_singleton, HQ.out.2.1.len, HQ.out.2.2.len]
            exact this
          · refine hG.out.below H6.out.2 (fun k q => H6.out.1.lo k q) H6.out.2.size
      · obtain rfl : In = j := by omega
        have d1 : decide ((In : Int) < (In : Int)) = false := by simp
        have h9 := hI.out.1
        rw [List.take_of_length_le (by rw [← H0.out.1.its.len, HLL.out.1]; exact Nat.le_refl _)] at h9
        have H9 := Aside0.mk h9
        clear h9
        go_wp2_with fail
        go_ret
        exact ⟨A1, In, cc, rfl, H9.out.rc, H0.out.1.bi, below_then (by rw [HN.out]; exact H0.out.2.2.1) (by have := H0.out.2.2.1.size; exact this) hI.out.2⟩
  | false =>
    go_wp2_with fail
    clear y0 y1 y2
    go_loopg [5, 30] Kn (fun gk v5 v30 wr => ∃ (j : Nat) (A1 : Option Addr) (c1 : Nat), Aside (gk + j = Kn) ∧ v30 = .int .i64 (j : Int) ∧ v5 = .slice A1 j c1 ∧ Aside0 (Oc wr w0.heap.size 3 1 A1 j c1 (iv ((kids.take j).map (fun q => kidI g q.k.length))) ∧ Below w0.heap.size w0 wr))
    case atStart => exact ⟨0, none, 0, rfl, rfl, rfl, ⟨Oc.nil _ _ _ _, Below.refl _ _⟩⟩
    case round =>
      obtain ⟨j, A1, cc, hk, rfl, rfl, hI⟩ := hrel
      have hjm : j ≤ Kn := by have := hk.out; omega
      rcases Nat.lt_or_ge j Kn with hlt | hge
      · have d1 : decide ((j : Int) < (Kn : Int)) = true := decide_eq_true (by omega)
        have hjn : (j : Int) < (Kn : Int) := by omega
        obtain ⟨ad, p, e0, hp, c0, c1⟩ := (HT.out _ hI.out.2).rk.kid (HT.out _ hI.out.2).lk j hlt
        obtain ⟨q, hq, bk, er⟩ := (HT.out _ hI.out.2).kds.each j p hp
        simp only at e0
        subst e0
        obtain ⟨⟨pk, pkn, pkc⟩, pr⟩ := p
        obtain ⟨qk, qr⟩ := q
        unfold shv at c0
        unfold Bsh at bk
        simp only at c0 c1 bk er
        subst er
        have HQ := Aside0.mk (And.intro hq bk)
        clear hp hq bk
        go_upto_region 12 with fail
        have hB5 := (Below.refl _ wr).alloc (Nat.le_refl _) (.cells #[.slice pk pkn pkc, .int .i64 pr] 74)
        have H5 := Aside0.mk (And.intro (hI.out.1.below hB5) (And.intro (below_then hI.out.2 hI.out.2.size hB5) (heap_alloc_new wr (.cells #[.slice pk pkn pkc, .int .i64 pr] 74))))
        obtain ⟨w5, hw5⟩ : ∃ X, wr.alloc (.cells #[.slice pk pkn pkc, .int .i64 pr] 74) = X := ⟨_, rfl⟩
        obtain ⟨M, hM⟩ : ∃ X, wr.heap.size = X := ⟨_, rfl⟩
        rw [hw5, hM] at H5
        rw [hw5, hM]
        have z0 : w5.cell? ⟨M, 0, none⟩ = some (.slice pk pkn pkc) := by rw [cell_of_row _ _ _ _ _ _ H5.out.2.2]; rfl
        clear hB5 hw5 hM c0 c1
        go_wp2_with (first
          | (go_at_call 101; refine (kid_any g pk pkn pkc w5 HQ.out.2.lim).mono ?_; rintro e w6 ⟨rfl, hB⟩; (have H6 := Aside0.mk (And.intro (H5.out.1.below hB) (below_then H5.out.2.1 H5.out.2.1.size hB))); clear hB)
          | (at_builtin; refine wpl_oc w0.heap.size rfl _ _ 118 3 (.int .i64 0) 1 8 rfl Tryz.underlying118 infoI1 rfl (by omega) (by omega) (by omega) A1 j _ w6.heap.size (iv ((kids.take j).map (fun q => kidI g q.k.length))) [.int .i64 (kidI g pkn)] rfl rfl (H6.out.1.below ((Below.refl _ w6).alloc (Nat.le_refl _) _)) rfl (lit1_range _ _) (iv_one [kidI g pkn]) (by have := H6.out.2.size; simp; omega) (by omega) ?_; intro A2 c2 w7 hO hG hA))
        go_roundg (Kn - (j + 1))
        case measure => have := hk.out; omega
        case rel =>
          refine ⟨j + 1, A2, c2, (by show Kn - (j + 1) + (j + 1) = Kn; omega), by go_num, rfl, ⟨?_, ?_⟩⟩
          · have := hO.out
            rw [List.take_add_one, HQ.out.1, Option.toList_some, List.map_append, iv_app, List.map_singleton, HQ.out.2.len]
            exact this
          · refine hG.out.below H6.out.2 (fun k q => H6.out.1.lo k q) H6.out.2.size
      · obtain rfl : Kn = j := by omega
        have d1 : decide ((Kn : Int) < (Kn : Int)) = false := by simp
        have h9 := hI.out.1
        rw [List.take_of_length_le (by rw [← H0.out.1.kds.len, HLL.out.2]; exact Nat.le_refl _)] at h9
        have H9 := Aside0.mk h9
        clear h9
        go_wp2_with fail
        go_ret
        exact ⟨A1, Kn, cc, rfl, H9.out.rc, H0.out.1.bk, below_then (by rw [HN.out]; exact H0.out.2.2.1) (by have := H0.out.2.2.1.size; exact this) hI.out.2⟩
def roomS (g : Int) (v : NV) : Int := (roomsL g v).sum
theorem roomI_in (g : Int) (nk nv : Nat) (r : Int) (hk : nk ≤ 140737488355328) (hv : nv ≤ 140737488355328) : 0 ≤ roomI g nk nv r ∧ roomI g nk nv r ≤ 1000000000000000 := by
  have := iw_range g
  unfold roomI
  split
  · split <;> omega
  · omega
theorem kidI_in (g : Int) (nk : Nat) (hk : nk ≤ 140737488355328) : 0 ≤ kidI g nk ∧ kidI g nk ≤ 1000000000000000 := by
  have := iw_range g
  unfold kidI
  split <;> omega
theorem Bsh.lim {W : World} {h : SH} {xs : List UInt8} (k : Bsh W h xs) : xs.length ≤ 140737488355328 := by
  have h1 := Bs.len k
  have h2 := Bs.lim k
  omega
theorem Nd.rooms_in {W : World} {h : NH} {is : List IH} {ks : List KH} {v : NV} (k : Nd W h is ks v) (g : Int) : ∀ z ∈ roomsL g v, 0 ≤ z ∧ z ≤ 1000000000000000 := by
  intro z hz
  unfold roomsL at hz
  split at hz
  · obtain ⟨q, hq, rfl⟩ := List.mem_map.1 hz
    obtain ⟨j, hj⟩ := List.getElem?_of_mem hq
    have hjl := (List.getElem?_eq_some_iff.1 hj).1
    obtain ⟨q', hq', b1, b2, _⟩ := k.its.each j (is[j]'(by rw [k.its.len]; exact hjl)) (List.getElem?_eq_getElem _)
    rw [hj] at hq'
    injection hq' with hq'
    subst hq'
    exact roomI_in g _ _ _ b1.lim b2.lim
  · obtain ⟨q, hq, rfl⟩ := List.mem_map.1 hz
    obtain ⟨j, hj⟩ := List.getElem?_of_mem hq
    have hjl := (List.getElem?_eq_some_iff.1 hj).1
    obtain ⟨q', hq', b1, _⟩ := k.kds.each j (ks[j]'(by rw [k.kds.len]; exact hjl)) (List.getElem?_eq_getElem _)
    rw [hj] at hq'
    injection hq' with hq'
    subst hq'
    exact kidI_in g _ b1.lim
theorem sum_in : ∀ (l : List Int), (∀ z ∈ l, 0 ≤ z ∧ z ≤ 1000000000000000) → 0 ≤ l.sum ∧ l.sum ≤ (l.length : Int) * 1000000000000000
  | [], _ => by simp
  | z :: r, h => by
    have h1 := h z List.mem_cons_self
    have h2 := sum_in r (fun y hy => h y (List.mem_cons_of_mem _ hy))
    rw [List.sum_cons, List.length_cons]
    push_cast
    omega
set_option maxHeartbeats 1600000 in
set_option maxRecDepth 100000 in
theorem nroom_any (h : NH) (is : List IH) (ks : List KH) (v : NV) (g : Int) (w : World) (hn : Nd w h is ks v) :
    Calls Tryz.prog 85 #[.int .i64 g, .agg (nhv h)] w fun e w' => e = .returned (.int .i64 (roomS g v)) ∧ Below w.heap.size w w' := by
  have hin := Aside0.mk (hn.rooms_in g)
  obtain ⟨lf, ⟨IA, In, Ic⟩, ⟨KA, Kn, Kc⟩⟩ := h
  have h0B := (Below.refl _ w).alloc (Nat.le_refl _) (.cells #[.bool lf, .slice IA In Ic, .slice KA Kn Kc] 28)
  have H0 := Aside0.mk (And.intro (hn.below h0B) (And.intro (heap_alloc_new w (.cells #[.bool lf, .slice IA In Ic, .slice KA Kn Kc] 28)) h0B))
  clear hn h0B
  show Calls Tryz.prog 85 #[.int .i64 g, .agg #[.bool lf, .slice IA In Ic, .slice KA Kn Kc]] w _
  go_enter Tryz.func85, Tryz.ntmps85
  go_upto_region 1 with fail
  obtain ⟨w0, hw0⟩ : ∃ X, w.alloc (.cells #[.bool lf, .slice IA In Ic, .slice KA Kn Kc] 28) = X := ⟨_, rfl⟩
  obtain ⟨N, hN⟩ : ∃ X, w.heap.size = X := ⟨_, rfl⟩
  rw [hw0, hN] at H0
  rw [hw0, hN]
  have HN := Aside0.mk hN
  clear hw0 hN
  obtain ⟨y0, y1, y2⟩ := nd_cells H0.out.2.1
  have cR := rooms_any ⟨lf, (IA, In, Ic), (KA, Kn, Kc)⟩ is ks v g w0 H0.out.1
  unfold nhv at cR
  go_wp2_with (go_at_call 96; refine cR.mono ?_; rintro e w1 ⟨A1, n1, c1, rfl, hR, hl, hB⟩; (have H1 := Aside0.mk (And.intro hR (And.intro (below_then H0.out.2.2 (by have := H0.out.2.2.size; rw [← HN.out]; exact this) hB) hl))); clear hR hB hl)
  clear y0 y1 y2 cR
  have hl := H1.out.1.len
  rw [iv_len, Nat.mul_one] at hl
  have HL := Aside0.mk hl
  have hn1 := H1.out.2.2
  clear hl
  go_loopg [5, 12] n1 (fun gk v5 v12 wr => ∃ (j : Nat), Aside (gk + j = n1) ∧ v12 = .int .i64 (j : Int) ∧ v5 = .int .i64 ((roomsL g v).take j).sum ∧ wr = w1)
  case atStart => exact ⟨0, rfl, rfl, rfl, rfl⟩
  case round =>
    obtain ⟨j, hk, rfl, rfl, rfl⟩ := hrel
    have hjm : j ≤ n1 := by have := hk.out; omega
    rcases Nat.lt_or_ge j n1 with hlt | hge
    · have d1 : decide ((j : Int) < (n1 : Int)) = true := decide_eq_true (by omega)
      have hjn : (j : Int) < (n1 : Int) := by omega
      obtain ⟨ad, z, rfl, hz, c0⟩ := H1.out.1.int j hlt
      obtain ⟨s, hs⟩ : ∃ s, ((roomsL g v).take j).sum = s := ⟨_, rfl⟩
      have HZ := Aside0.mk (And.intro hz hs)
      have hb1 := sum_in ((roomsL g v).take j) (fun y hy => hin.out y (List.mem_of_mem_take hy))
      have hb2 := hin.out z (List.mem_of_getElem? hz)
      have hb3 : ((roomsL g v).take j).length ≤ 1000 := by rw [List.length_take, HL.out]; have := H1.out.2.2; omega
      rw [hs] at hb1 ⊢
      have hw : IntKind.i64.wrap (s + z) = s + z := IntWalk.i64_in _ (by omega)
      clear hz hs hb1 hb2 hb3
      go_wp2_with fail
      go_roundg (n1 - (j + 1))
      case measure => have := hk.out; omega
      case rel => exact ⟨j + 1, (by show n1 - (j + 1) + (j + 1) = n1; omega), by go_num, by rw [List.take_add_one, HZ.out.1, Option.toList_some, List.sum_append, List.sum_singleton, HZ.out.2], rfl⟩
    · obtain rfl : n1 = j := by omega
      have d1 : decide ((n1 : Int) < (n1 : Int)) = false := by simp
      have HS := Aside0.mk (show ((roomsL g v).take n1).sum = roomS g v by rw [List.take_of_length_le (by rw [HL.out]; exact Nat.le_refl _)]; rfl)
      go_wp2_with fail
      go_ret
      rw [HS.out, HN.out]
      exact ⟨rfl, H1.out.2.1⟩
def fitsN (g : Int) (v : NV) : Bool := decide (roomS g v ≤ cpI g)
set_option maxHeartbeats 1600000 in
set_option maxRecDepth 100000 in
theorem nfits_any (h : NH) (is : List IH) (ks : List KH) (v : NV) (g : Int) (w : World) (hn : Nd w h is ks v) :
    Calls Tryz.prog 67 #[.int .i64 g, .agg (nhv h)] w fun e w' => e = .returned (.bool (fitsN g v)) ∧ Below w.heap.size w w' := by
  obtain ⟨lf, ⟨IA, In, Ic⟩, ⟨KA, Kn, Kc⟩⟩ := h
  have h0B := (Below.refl _ w).alloc (Nat.le_refl _) (.cells #[.bool lf, .slice IA In Ic, .slice KA Kn Kc] 28)
  have H0 := Aside0.mk (And.intro (hn.below h0B) (And.intro (heap_alloc_new w (.cells #[.bool lf, .slice IA In Ic, .slice KA Kn Kc] 28)) h0B))
  clear hn h0B
  show Calls Tryz.prog 67 #[.int .i64 g, .agg #[.bool lf, .slice IA In Ic, .slice KA Kn Kc]] w _
  go_enter Tryz.func67, Tryz.ntmps67
  go_upto_region 1 with fail
  obtain ⟨w0, hw0⟩ : ∃ X, w.alloc (.cells #[.bool lf, .slice IA In Ic, .slice KA Kn Kc] 28) = X := ⟨_, rfl⟩
  obtain ⟨N, hN⟩ : ∃ X, w.heap.size = X := ⟨_, rfl⟩
  rw [hw0, hN] at H0
  rw [hw0, hN]
  have HN := Aside0.mk hN
  clear hw0 hN
  obtain ⟨y0, y1, y2⟩ := nd_cells H0.out.2.1
  have cR := nroom_any ⟨lf, (IA, In, Ic), (KA, Kn, Kc)⟩ is ks v g w0 H0.out.1
  unfold nhv at cR
  go_wp2_with (first
    | (go_at_call 85; refine cR.mono ?_; rintro e w1 ⟨rfl, hB⟩; (have H1 := Aside0.mk (below_then H0.out.2.2 (by have := H0.out.2.2.size; rw [← HN.out]; exact this) hB)); clear hB)
    | (go_at_call 34; refine (cap_any g w1).mono ?_; rintro e w2 ⟨rfl, hB⟩; (have H2 := Aside0.mk (below_then H1.out (by have := H1.out.size; rw [← HN.out]; exact this) hB)); clear hB))
  go_ret
  rw [HN.out]
  exact ⟨rfl, H2.out⟩
end Go.Proofs.YtbjfklgmbeaaoaaGreat
