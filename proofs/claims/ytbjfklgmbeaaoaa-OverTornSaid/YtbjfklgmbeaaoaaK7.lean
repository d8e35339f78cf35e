/- Slices of items, of kids, of slices of bytes, read; the walks of a node's keys, and of rising. -/
import Derived.Test.YtbjfklgmbeaaoaaK6
set_option linter.unusedVariables false
set_option linter.unusedSimpArgs false
namespace Go.Proofs.Ytbjfklgmbeaaoaa
open Go.RowKit

/-- A slice's header: where, how long, its room. -/
abbrev SH := Option Addr × Nat × Nat
def shv (h : SH) : Value := .slice h.1 h.2.1 h.2.2
structure IH where
  k : SH
  v : SH
  s : Int
  r : Int
structure IV where
  k : List UInt8
  v : List UInt8
  s : Int
  r : Int
structure KH where
  k : SH
  r : Int
structure KV where
  k : List UInt8
  r : Int
def ih4 (p : IH) : List Value := [shv p.k, shv p.v, .int .i64 p.s, .int .i64 p.r]
def kh2 (p : KH) : List Value := [shv p.k, .int .i64 p.r]
def ihv (l : List IH) : List Value := l.flatMap ih4
def khv (l : List KH) : List Value := l.flatMap kh2
def shl (l : List SH) : List Value := l.map shv
theorem ihv_app (a b : List IH) : ihv (a ++ b) = ihv a ++ ihv b := by simp [ihv]
theorem khv_app (a b : List KH) : khv (a ++ b) = khv a ++ khv b := by simp [khv]
theorem shl_app (a b : List SH) : shl (a ++ b) = shl a ++ shl b := by simp [shl]
theorem ihv_len : ∀ l : List IH, (ihv l).length = l.length * 4
  | [] => rfl
  | p :: r => by
    show (ih4 p ++ ihv r).length = _
    rw [List.length_append, ihv_len r, List.length_cons]
    show 4 + _ = _
    omega
theorem khv_len : ∀ l : List KH, (khv l).length = l.length * 2
  | [] => rfl
  | p :: r => by
    show (kh2 p ++ khv r).length = _
    rw [List.length_append, khv_len r, List.length_cons]
    show 2 + _ = _
    omega
theorem shl_len (l : List SH) : (shl l).length = l.length := by simp [shl]
theorem ihv_one : ∀ l : List IH, ∀ v ∈ ihv l, v.oneCell' = true := fun l v h => by
  obtain ⟨p, _, hp⟩ := List.mem_flatMap.1 h
  simp only [ih4, shv, List.mem_cons, List.not_mem_nil, or_false] at hp
  rcases hp with rfl | rfl | rfl | rfl <;> rfl
theorem khv_one : ∀ l : List KH, ∀ v ∈ khv l, v.oneCell' = true := fun l v h => by
  obtain ⟨p, _, hp⟩ := List.mem_flatMap.1 h
  simp only [kh2, shv, List.mem_cons, List.not_mem_nil, or_false] at hp
  rcases hp with rfl | rfl <;> rfl
theorem shl_one (l : List SH) : ∀ v ∈ shl l, v.oneCell' = true := fun v h => by
  obtain ⟨p, _, rfl⟩ := List.mem_map.1 h
  rfl
theorem ihv_at : ∀ (l : List IH) (j : Nat) (p : IH) (i : Nat), l[j]? = some p → i < 4 → (ihv l)[j * 4 + i]? = (ih4 p)[i]?
  | [], j, p, i, h, _ => by simp at h
  | q :: r, 0, p, i, h, hi => by
    injection h with h; subst h
    show (ih4 q ++ ihv r)[0 * 4 + i]? = _
    rw [List.getElem?_append_left (by show 0 * 4 + i < 4; omega), Nat.zero_mul, Nat.zero_add]
  | q :: r, j + 1, p, i, h, hi => by
    show (ih4 q ++ ihv r)[(j + 1) * 4 + i]? = _
    rw [List.getElem?_append_right (by show 4 ≤ _; omega), show (j + 1) * 4 + i - (ih4 q).length = j * 4 + i by show _ - 4 = _; omega]
    exact ihv_at r j p i (by simpa using h) hi
theorem khv_at : ∀ (l : List KH) (j : Nat) (p : KH) (i : Nat), l[j]? = some p → i < 2 → (khv l)[j * 2 + i]? = (kh2 p)[i]?
  | [], j, p, i, h, _ => by simp at h
  | q :: r, 0, p, i, h, hi => by
    injection h with h; subst h
    show (kh2 q ++ khv r)[0 * 2 + i]? = _
    rw [List.getElem?_append_left (by show 0 * 2 + i < 2; omega), Nat.zero_mul, Nat.zero_add]
  | q :: r, j + 1, p, i, h, hi => by
    show (kh2 q ++ khv r)[(j + 1) * 2 + i]? = _
    rw [List.getElem?_append_right (by show 2 ≤ _; omega), show (j + 1) * 2 + i - (kh2 q).length = j * 2 + i by show _ - 2 = _; omega]
    exact khv_at r j p i (by simpa using h) hi
theorem addN (ad : Addr) (a i : Nat) (h : 0 < i) : ad.add (a + i) = ⟨(ad.add a).block, (ad.add a).off + i, none⟩ := by
  rw [← add_add]
  show (ad.add a).add i = _
  unfold Addr.add
  rw [if_neg (by omega)]
/-- The cells of one item. -/
theorem Rc.item {w : World} {A : Option Addr} {n c : Nat} {l : List IH} (h : Rc w 4 A n c (ihv l)) (hl : l.length = n) (j : Nat) (hj : j < n) :
    ∃ ad p, A = some ad ∧ l[j]? = some p ∧ w.cell? (ad.add (j * 4)) = some (shv p.k) ∧ w.cell? ⟨(ad.add (j * 4)).block, (ad.add (j * 4)).off + 1, none⟩ = some (shv p.v) ∧ w.cell? ⟨(ad.add (j * 4)).block, (ad.add (j * 4)).off + 2, none⟩ = some (.int .i64 p.s) ∧ w.cell? ⟨(ad.add (j * 4)).block, (ad.add (j * 4)).off + 3, none⟩ = some (.int .i64 p.r) := by
  obtain ⟨ad, e, hx⟩ := h.cells (by omega)
  have hp : l[j]? = some l[j] := List.getElem?_eq_getElem (by omega)
  have key : ∀ i v, i < 4 → (ih4 l[j])[i]? = some v → w.cell? (ad.add (j * 4 + i)) = some v := fun i v hi hv => hx _ _ (by rw [ihv_at l j _ i hp hi]; exact hv)
  refine ⟨ad, l[j], e, hp, key 0 _ (by omega) rfl, ?_, ?_, ?_⟩
  · rw [← addN ad (j * 4) 1 (by omega)]; exact key 1 _ (by omega) rfl
  · rw [← addN ad (j * 4) 2 (by omega)]; exact key 2 _ (by omega) rfl
  · rw [← addN ad (j * 4) 3 (by omega)]; exact key 3 _ (by omega) rfl
theorem Rc.kid {w : World} {A : Option Addr} {n c : Nat} {l : List KH} (h : Rc w 2 A n c (khv l)) (hl : l.length = n) (j : Nat) (hj : j < n) :
    ∃ ad p, A = some ad ∧ l[j]? = some p ∧ w.cell? (ad.add (j * 2)) = some (shv p.k) ∧ w.cell? ⟨(ad.add (j * 2)).block, (ad.add (j * 2)).off + 1, none⟩ = some (.int .i64 p.r) := by
  obtain ⟨ad, e, hx⟩ := h.cells (by omega)
  have hp : l[j]? = some l[j] := List.getElem?_eq_getElem (by omega)
  have key : ∀ i v, i < 2 → (kh2 l[j])[i]? = some v → w.cell? (ad.add (j * 2 + i)) = some v := fun i v hi hv => hx _ _ (by rw [khv_at l j _ i hp hi]; exact hv)
  refine ⟨ad, l[j], e, hp, key 0 _ (by omega) rfl, ?_⟩
  rw [← addN ad (j * 2) 1 (by omega)]; exact key 1 _ (by omega) rfl
theorem Rc.sh {w : World} {A : Option Addr} {n c : Nat} {l : List SH} (h : Rc w 1 A n c (shl l)) (hl : l.length = n) (j : Nat) (hj : j < n) :
    ∃ ad p, A = some ad ∧ l[j]? = some p ∧ w.cell? (ad.add j) = some (shv p) := by
  obtain ⟨ad, e, hx⟩ := h.cells (by omega)
  have hp : l[j]? = some l[j] := List.getElem?_eq_getElem (by omega)
  exact ⟨ad, l[j], e, hp, hx _ _ (by unfold shl; rw [List.getElem?_map, hp]; rfl)⟩
/-- What headers hold. -/
def Bsh (W : World) (h : SH) (xs : List UInt8) : Prop := Bs W h.1 h.2.1 h.2.2 xs
structure Its (W : World) (hs : List IH) (l : List IV) : Prop where
  len : hs.length = l.length
  each : ∀ (j : Nat) (p : IH), hs[j]? = some p → ∃ q : IV, l[j]? = some q ∧ Bsh W p.k q.k ∧ Bsh W p.v q.v ∧ p.s = q.s ∧ p.r = q.r
structure Kds (W : World) (hs : List KH) (l : List KV) : Prop where
  len : hs.length = l.length
  each : ∀ (j : Nat) (p : KH), hs[j]? = some p → ∃ q : KV, l[j]? = some q ∧ Bsh W p.k q.k ∧ p.r = q.r
structure Shs (W : World) (hs : List SH) (l : List (List UInt8)) : Prop where
  len : hs.length = l.length
  each : ∀ (j : Nat) (p : SH), hs[j]? = some p → ∃ q : List UInt8, l[j]? = some q ∧ Bsh W p q
theorem Its.below {W W1 : World} {hs : List IH} {l : List IV} (h : Its W hs l) (hB : Below W.heap.size W W1) : Its W1 hs l :=
  ⟨h.len, fun j p hj => by obtain ⟨q, a, b, c, d, e⟩ := h.each j p hj; exact ⟨q, a, Bs.below b hB, Bs.below c hB, d, e⟩⟩
theorem Kds.below {W W1 : World} {hs : List KH} {l : List KV} (h : Kds W hs l) (hB : Below W.heap.size W W1) : Kds W1 hs l :=
  ⟨h.len, fun j p hj => by obtain ⟨q, a, b, c⟩ := h.each j p hj; exact ⟨q, a, Bs.below b hB, c⟩⟩
theorem Shs.below {W W1 : World} {hs : List SH} {l : List (List UInt8)} (h : Shs W hs l) (hB : Below W.heap.size W W1) : Shs W1 hs l :=
  ⟨h.len, fun j p hj => by obtain ⟨q, a, b⟩ := h.each j p hj; exact ⟨q, a, Bs.below b hB⟩⟩
theorem Shs.app {W : World} {a b : List SH} {x y : List (List UInt8)} (h : Shs W a x) (k : Shs W b y) : Shs W (a ++ b) (x ++ y) := by
  refine ⟨by rw [List.length_append, List.length_append, h.len, k.len], fun j p hj => ?_⟩
  rcases Nat.lt_or_ge j a.length with q | q
  · rw [List.getElem?_append_left q] at hj
    rw [List.getElem?_append_left (by rw [← h.len]; exact q)]
    exact h.each j p hj
  · rw [List.getElem?_append_right q] at hj
    rw [List.getElem?_append_right (by rw [← h.len]; exact q), ← h.len]
    exact k.each _ p hj
/-- A node's value, and what it holds. -/
structure NH where
  leaf : Bool
  I : SH
  K : SH
structure NV where
  leaf : Bool
  items : List IV
  kids : List KV
def nhv (h : NH) : Array Value := #[.bool h.leaf, .slice h.I.1 h.I.2.1 h.I.2.2, .slice h.K.1 h.K.2.1 h.K.2.2]
structure Nd (W : World) (h : NH) (is : List IH) (ks : List KH) (v : NV) : Prop where
  leaf : h.leaf = v.leaf
  ri : Rc W 4 h.I.1 h.I.2.1 h.I.2.2 (ihv is)
  rk : Rc W 2 h.K.1 h.K.2.1 h.K.2.2 (khv ks)
  li : is.length = h.I.2.1
  lk : ks.length = h.K.2.1
  its : Its W is v.items
  kds : Kds W ks v.kids
  bi : h.I.2.1 ≤ 1000
  bk : h.K.2.1 ≤ 1000
theorem Nd.below {W W1 : World} {h : NH} {is : List IH} {ks : List KH} {v : NV} (k : Nd W h is ks v) (hB : Below W.heap.size W W1) : Nd W1 h is ks v :=
  ⟨k.leaf, k.ri.below hB, k.rk.below hB, k.li, k.lk, k.its.below hB, k.kds.below hB, k.bi, k.bk⟩
def keysL (v : NV) : List (List UInt8) := v.items.map IV.k ++ (v.kids.drop 1).map KV.k
theorem infoSl : (Try.prog.info? 27).map (fun i => (i.zero, i.size, i.bytes)) = some (some (.slice none 0 0), 1, 24) := by kernel_rfl
theorem lit1_range {W : World} (v : Value) (T : TypeId) : (W.alloc (.cells #[v] T)).rangeAt W.heap.size 0 [v] := lit_range W #[v] T [v] rfl
set_option maxHeartbeats 8000000 in
set_option maxRecDepth 100000 in
theorem keys_any (h : NH) (is : List IH) (ks : List KH) (v : NV) (w : World) (hn : Nd w h is ks v) :
    Calls Try.prog 101 #[.agg (nhv h)] w fun e w' => ∃ A n c hs, e = .returned (.slice A n c) ∧ Rc w' 1 A n c (shl hs) ∧ hs.length = n ∧ Shs w' hs (keysL v) ∧ Below w.heap.size w w' := by
  obtain ⟨lf, ⟨IA, In, Ic⟩, ⟨KA, Kn, Kc⟩⟩ := h
  obtain ⟨lf', items, kids⟩ := v
  have hri := hn.ri.lim
  have hrk := hn.rk.lim
  have h0B := (Below.refl _ w).alloc (Nat.le_refl _) (.cells #[.bool lf, .slice IA In Ic, .slice KA Kn Kc] 69)
  have H0 := Aside0.mk (And.intro (hn.below h0B) (And.intro (heap_alloc_new w (.cells #[.bool lf, .slice IA In Ic, .slice KA Kn Kc] 69)) (And.intro h0B (show (w.alloc (.cells #[.bool lf, .slice IA In Ic, .slice KA Kn Kc] 69)).heap.size = w.heap.size + 1 by simp))))
  clear hn h0B
  show Calls Try.prog 101 #[.agg #[.bool lf, .slice IA In Ic, .slice KA Kn Kc]] w _
  go_enter Try.func101, Try.ntmps101
  go_upto_region 1 with fail
  obtain ⟨w0, hw0⟩ : ∃ X, w.alloc (.cells #[.bool lf, .slice IA In Ic, .slice KA Kn Kc] 69) = X := ⟨_, rfl⟩
  obtain ⟨N, hN⟩ : ∃ X, w.heap.size = X := ⟨_, rfl⟩
  rw [hw0, hN] at H0
  rw [hw0, hN]
  have HN := Aside0.mk hN
  clear hw0 hN
  have HY := Aside0.mk (show ∀ X : World, Below w0.heap.size w0 X → X.cell? ⟨N, 1, none⟩ = some (.slice IA In Ic) ∧ X.cell? ⟨N, 2, none⟩ = some (.slice KA Kn Kc) from fun X hX => by
    have hr := (hX.block _ (Array.getElem?_eq_some_iff.1 H0.out.2.1).1).trans H0.out.2.1
    exact ⟨by rw [cell_of_row _ _ _ _ _ _ hr]; rfl, by rw [cell_of_row _ _ _ _ _ _ hr]; rfl⟩)
  obtain ⟨y1, y2⟩ := HY.out _ (Below.refl _ _)
  have HT := Aside0.mk (show ∀ X : World, Below w0.heap.size w0 X → Nd X ⟨lf, (IA, In, Ic), (KA, Kn, Kc)⟩ is ks ⟨lf', items, kids⟩ from fun X hX => H0.out.1.below hX)
  go_wp2_with fail
  clear y1 y2
  go_loopg [3, 11] In (fun gk v3 v11 wr => ∃ (j : Nat) (A1 : Option Addr) (c1 : Nat), Aside (gk + j = In) ∧ v11 = .int .i64 (j : Int) ∧ v3 = .slice A1 j c1 ∧ Aside0 (Oc wr w0.heap.size 27 1 A1 j c1 (shl ((is.take j).map IH.k)) ∧ Below w0.heap.size w0 wr))
  case atStart => exact ⟨0, none, 0, rfl, rfl, rfl, ⟨Oc.nil _ _ _ _, Below.refl _ _⟩⟩
  case round =>
    obtain ⟨j, A1, cc, hk, rfl, rfl, hI⟩ := hrel
    have hjm : j ≤ In := by have := hk.out; omega
    rcases Nat.lt_or_ge j In with hlt | hge
    · have d1 : decide ((j : Int) < (In : Int)) = true := decide_eq_true (by omega)
      have hjn : (j : Int) < (In : Int) := by omega
      obtain ⟨ad, p, e0, hp, c0, c1, c2, c3⟩ := (HT.out _ hI.out.2).ri.item (HT.out _ hI.out.2).li j hlt
      simp only at e0
      subst e0
      obtain ⟨⟨pk, pkn, pkc⟩, ⟨pv, pvn, pvc⟩, ps, pr⟩ := p
      unfold shv at c0 c1
      simp only at c0 c1 c2 c3
      have HP := Aside0.mk hp
      clear hp
      go_upto_region 5 with fail
      have hB5 := (Below.refl _ wr).alloc (Nat.le_refl _) (.cells #[.slice pk pkn pkc, .slice pv pvn pvc, .int .i64 ps, .int .i64 pr] 96)
      have H5 := Aside0.mk (And.intro (hI.out.1.below hB5) (And.intro (below_then hI.out.2 hI.out.2.size hB5) (heap_alloc_new wr (.cells #[.slice pk pkn pkc, .slice pv pvn pvc, .int .i64 ps, .int .i64 pr] 96))))
      obtain ⟨w5, hw5⟩ : ∃ X, wr.alloc (.cells #[.slice pk pkn pkc, .slice pv pvn pvc, .int .i64 ps, .int .i64 pr] 96) = X := ⟨_, rfl⟩
      obtain ⟨M, hM⟩ : ∃ X, wr.heap.size = X := ⟨_, rfl⟩
      rw [hw5, hM] at H5
      rw [hw5, hM]
      obtain ⟨z0, z1, z2, z3⟩ := item_cells2 H5.out.2.2
      clear hB5 hw5 hM c0 c1 c2 c3
      go_wp2_with (at_builtin; refine wpl_oc w0.heap.size rfl _ _ 43 27 (.slice none 0 0) 1 24 rfl Try.underlying43 infoSl rfl (by omega) (by omega) (by omega) A1 j _ w5.heap.size (shl ((is.take j).map IH.k)) [.slice pk pkn pkc] rfl rfl (H5.out.1.below ((Below.refl _ w5).alloc (Nat.le_refl _) _)) rfl (lit1_range _ _) (shl_one [(pk, pkn, pkc)]) (by have := H5.out.2.1.size; simp; omega) (by omega) ?_; intro A2 c2 w6 hO hG hA)
      go_roundg (In - (j + 1))
      case measure => have := hk.out; omega
      case rel =>
        refine ⟨j + 1, A2, c2, (by show In - (j + 1) + (j + 1) = In; omega), by go_num, rfl, ⟨?_, ?_⟩⟩
        · have := hO.out
          rw [List.take_add_one, HP.out, Option.toList_some, List.map_append, shl_app]
          exact this
        · refine hG.out.below H5.out.2.1 (fun k q => H5.out.1.lo k q) H5.out.2.1.size
    · obtain rfl : In = j := by omega
      have d1 : decide ((In : Int) < (In : Int)) = false := by simp
      have h9 := hI.out.1
      rw [List.take_of_length_le (by have := H0.out.1.li; simp only at this; omega)] at h9
      have H9 := Aside0.mk (And.intro h9 hI.out.2)
      clear h9
      obtain ⟨y1, y2⟩ := HY.out _ hI.out.2
      go_wp2_with fail
      clear y1 y2 hI hk
      obtain ⟨A3, hA3⟩ : ∃ x, A1 = x := ⟨_, rfl⟩
      rw [hA3] at H9 ⊢
      clear hA3
      go_loopg [3, 24] Kn (fun gk v3 v24 wr => ∃ (j : Nat) (A7 : Option Addr) (n7 c7 : Nat), Aside (gk + j = Kn) ∧ v24 = .int .i64 (j : Int) ∧ v3 = .slice A7 n7 c7 ∧ Aside0 (n7 = In + (j - 1) ∧ Oc wr w0.heap.size 27 1 A7 n7 c7 (shl (is.map IH.k ++ ((ks.take j).drop 1).map KH.k)) ∧ Below w0.heap.size w0 wr))
      case atStart => exact ⟨0, A3, In, cc, rfl, rfl, rfl, ⟨rfl, by rw [List.take_zero, List.drop_nil, List.map_nil, List.append_nil]; exact H9.out.1, H9.out.2⟩⟩
      case round =>
        obtain ⟨j, A7, n7, c7, hk, rfl, rfl, hI⟩ := hrel
        have hjm : j ≤ Kn := by have := hk.out; omega
        rcases Nat.lt_or_ge j Kn with hlt | hge
        · have d2 : decide ((j : Int) < (Kn : Int)) = true := decide_eq_true (by omega)
          have hjn : (j : Int) < (Kn : Int) := by omega
          obtain ⟨ad, p, e0, hp, c0, c1⟩ := (HT.out _ hI.out.2.2).rk.kid (HT.out _ hI.out.2.2).lk j hlt
          simp only at e0
          subst e0
          obtain ⟨⟨pk, pkn, pkc⟩, pr⟩ := p
          unfold shv at c0
          simp only at c0 c1
          have HP := Aside0.mk hp
          clear hp
          go_upto_region 10 with fail
          have hB5 := (Below.refl _ wr).alloc (Nat.le_refl _) (.cells #[.slice pk pkn pkc, .int .i64 pr] 115)
          have H5 := Aside0.mk (And.intro (hI.out.2.1.below hB5) (And.intro (below_then hI.out.2.2 hI.out.2.2.size hB5) (heap_alloc_new wr (.cells #[.slice pk pkn pkc, .int .i64 pr] 115))))
          obtain ⟨w5, hw5⟩ : ∃ X, wr.alloc (.cells #[.slice pk pkn pkc, .int .i64 pr] 115) = X := ⟨_, rfl⟩
          obtain ⟨M, hM⟩ : ∃ X, wr.heap.size = X := ⟨_, rfl⟩
          rw [hw5, hM] at H5
          rw [hw5, hM]
          have z0 : w5.cell? ⟨M, 0, none⟩ = some (.slice pk pkn pkc) := by rw [cell_of_row _ _ _ _ _ _ H5.out.2.2]; rfl
          clear hB5 hw5 hM c0 c1
          rcases Nat.eq_zero_or_pos j with h0 | h0
          · subst h0
            go_wp2_with fail
            go_roundg (Kn - (0 + 1))
            case measure => have := hk.out; omega
            case rel =>
              refine ⟨0 + 1, A7, n7, c7, (by show Kn - (0 + 1) + (0 + 1) = Kn; omega), by go_num, rfl, ⟨hI.out.1, ?_, H5.out.2.1⟩⟩
              have h9 := H5.out.1
              have hl : (ks.take (0 + 1)).length ≤ 1 := by rw [List.length_take]; omega
              rw [List.drop_eq_nil_of_le hl]
              simpa using h9
          · have d3 : decide (0 < (j : Int)) = true := decide_eq_true (by omega)
            have hj0 : (0 : Int) < (j : Int) := by omega
            have HJ := Aside0.mk h0
            clear h0
            go_wp2_with (at_builtin; refine wpl_oc w0.heap.size rfl _ _ 43 27 (.slice none 0 0) 1 24 rfl Try.underlying43 infoSl rfl (by omega) (by omega) (by omega) A7 n7 _ w5.heap.size (shl (is.map IH.k ++ ((ks.take j).drop 1).map KH.k)) [.slice pk pkn pkc] rfl rfl (H5.out.1.below ((Below.refl _ w5).alloc (Nat.le_refl _) _)) rfl (lit1_range _ _) (shl_one [(pk, pkn, pkc)]) (by have := H5.out.2.1.size; simp; omega) (by have := hI.out.1; have := H0.out.1.bi; have := H0.out.1.bk; simp only at *; omega) ?_; intro A8 c8 w6 hO hG hA)
            go_roundg (Kn - (j + 1))
            case measure => have := hk.out; omega
            case rel =>
              refine ⟨j + 1, A8, n7 + 1, c8, (by show Kn - (j + 1) + (j + 1) = Kn; omega), by go_num, rfl, ⟨by have := hI.out.1; have := HJ.out; omega, ?_, ?_⟩⟩
              · have := hO.out
                have hjl : 1 ≤ (ks.take j).length := by
                  have h1 := H0.out.1.lk
                  have h2 := HJ.out
                  simp only at h1
                  rw [List.length_take]
                  omega
                rw [List.take_add_one, HP.out, Option.toList_some, List.drop_append_of_le_length hjl, List.map_append, ← List.append_assoc, shl_app]
                exact this
              · refine hG.out.below H5.out.2.1 (fun k q => H5.out.1.lo k q) H5.out.2.1.size
        · obtain rfl : Kn = j := by omega
          have d2 : decide ((Kn : Int) < (Kn : Int)) = false := by simp
          have h9 := hI.out.2.1
          rw [List.take_of_length_le (by have := H0.out.1.lk; simp only at this; omega)] at h9
          have H10 := Aside0.mk (And.intro h9 hI.out.2.2)
          clear h9
          go_wp2_with fail
          go_ret
          have hd := HT.out _ H10.out.2
          refine ⟨A7, n7, c7, is.map IH.k ++ (ks.drop 1).map KH.k, rfl, H10.out.1.rc, ?_, ?_, below_then (by rw [HN.out]; exact H0.out.2.2.1) (by have := H0.out.2.2.1.size; exact this) H10.out.2⟩
          · have h1 := hd.li
            have h2 := hd.lk
            have h3 := hI.out.1
            simp only at h1 h2
            rw [List.length_append, List.length_map, List.length_map, List.length_drop]
            omega
          · refine Shs.app ⟨by rw [List.length_map, List.length_map]; exact hd.its.len, fun j p hj => ?_⟩ ⟨by rw [List.length_map, List.length_map, List.length_drop, List.length_drop, hd.kds.len], fun j p hj => ?_⟩
            · rw [List.getElem?_map] at hj
              obtain ⟨q, hq, rfl⟩ := Option.map_eq_some_iff.1 hj
              obtain ⟨u, hu, hb, _⟩ := hd.its.each j q hq
              exact ⟨u.k, by rw [List.getElem?_map, hu]; rfl, hb⟩
            · rw [List.getElem?_map] at hj
              obtain ⟨q, hq, rfl⟩ := Option.map_eq_some_iff.1 hj
              rw [List.getElem?_drop] at hq
              obtain ⟨u, hu, hb, _⟩ := hd.kds.each _ q hq
              exact ⟨u.k, by rw [List.getElem?_map, List.getElem?_drop, hu]; rfl, hb⟩
/-- Each is above the one ahead. -/
def risB (l : List (List UInt8)) : Bool := (List.range (l.length - 1)).all fun i => decide (Lib.compareBytes (l.getD i []) (l.getD (i + 1) []) < 0)
end Go.Proofs.Ytbjfklgmbeaaoaa
