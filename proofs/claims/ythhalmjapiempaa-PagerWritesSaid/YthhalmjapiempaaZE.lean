/- Slices of elements of many cells that the program itself made; a disk in memory. The walks of disk's small functions. The walk of a disk's Grow. The walks of slices.Clone at sectors and at writes. The walk of what a disk's sectors are, as reads see them. -/
import Derived.Test.YthhalmjapiempaaZ1
import Derived.Test.YthhalmjapiempaaZ3
import Derived.Deep.MidRow
import Derived.Lib.SmallJoins
import Derived.Deep.WholeRow
set_option linter.unusedVariables false
set_option linter.unusedSimpArgs false
namespace Go.Proofs.Ythhalmjapiempaa
open Go.RowKit

/-- A slice of elements of k cells each. -/
structure Oc (w : World) (base : Nat) (T : TypeId) (k : Nat) (A : Option Addr) (n c : Nat) (xs : List Value) : Prop where
  row : w.ownsRow base T k (.slice A n c) n xs
  one : ∀ v, v ∈ xs → v.oneCell' = true
  lim : n ≤ 1000000000
theorem Oc.len {w : World} {base k n c : Nat} {T : TypeId} {A : Option Addr} {xs : List Value} (h : Oc w base T k A n c xs) : xs.length = n * k := h.row.1
theorem Oc.nil (w : World) (base : Nat) (T : TypeId) (k : Nat) : Oc w base T k none 0 0 [] := ⟨World.ownsRow_nil _ _ _ _, fun _ h => absurd h List.not_mem_nil, by omega⟩
theorem Oc.kept {w w1 : World} {base k n c : Nat} {T : TypeId} {A : Option Addr} {xs : List Value} (h : Oc w base T k A n c xs) (hb : ∀ g, A = some ⟨g, 0, none⟩ → g < w.heap.size → w1.heap[g]? = w.heap[g]?) : Oc w1 base T k A n c xs := by
  refine ⟨⟨h.row.1, ?_⟩, h.one, h.lim⟩
  rcases h.row.2 with hn | ⟨g, cap, cur, hv, hg, hh, rest⟩
  · exact .inl hn
  · refine .inr ⟨g, cap, cur, hv, hg, ?_, rest⟩
    injection hv with h1 _ _
    rw [hb g h1 (Array.getElem?_eq_some_iff.1 hh).1]
    exact hh
theorem Oc.below {w w1 : World} {base k n c : Nat} {T : TypeId} {A : Option Addr} {xs : List Value} (h : Oc w base T k A n c xs) (hb : Below w.heap.size w w1) : Oc w1 base T k A n c xs := h.kept fun g _ hg => hb.block g hg
theorem Oc.only {w w1 : World} {base k n c g : Nat} {T : TypeId} {A : Option Addr} {xs : List Value} (h : Oc w base T k A n c xs) (ho : OnlyB g w w1) (hne : ∀ j, A = some ⟨j, 0, none⟩ → j ≠ g) : Oc w1 base T k A n c xs := h.kept fun j e hj => ho.block j hj (hne j e)
theorem Oc.mono {w : World} {base base' k n c : Nat} {T : TypeId} {A : Option Addr} {xs : List Value} (h : Oc w base T k A n c xs) (hb : base' ≤ base) : Oc w base' T k A n c xs := by
  refine ⟨⟨h.row.1, ?_⟩, h.one, h.lim⟩
  rcases h.row.2 with hn | ⟨g, cap, cur, hv, hg, rest⟩
  · exact .inl hn
  · exact .inr ⟨g, cap, cur, hv, by omega, rest⟩
theorem Oc.head {w : World} {base k n c : Nat} {T : TypeId} {A : Option Addr} {xs : List Value} (h : Oc w base T k A n c xs) (h0 : 0 < n) :
    ∃ g, A = some ⟨g, 0, none⟩ ∧ base ≤ g ∧ g < w.heap.size := by
  rcases h.row.2 with ⟨hv, hn⟩ | ⟨g, cap, cur, hv, hg, hh, _⟩
  · omega
  · injection hv with h1 _ _
    exact ⟨g, h1, hg, (Array.getElem?_eq_some_iff.1 hh).1⟩
theorem Oc.addr {w : World} {base k n c : Nat} {T : TypeId} {A : Option Addr} {xs : List Value} (h : Oc w base T k A n c xs) : A = none ∨ ∃ g, A = some ⟨g, 0, none⟩ ∧ base ≤ g ∧ g < w.heap.size := by
  rcases h.row.2 with ⟨hv, hn⟩ | ⟨g, cap, cur, hv, hg, hh, _⟩
  · injection hv with h1 _ _
    exact .inl h1
  · injection hv with h1 _ _
    exact .inr ⟨g, h1, hg, (Array.getElem?_eq_some_iff.1 hh).1⟩
theorem Oc.cap {w : World} {base k n c : Nat} {T : TypeId} {A : Option Addr} {xs : List Value} (h : Oc w base T k A n c xs) : n ≤ c ∧ c ≤ 9223372036854775807 := by
  rcases h.row.2 with ⟨hv, hn⟩ | ⟨g, cap, cur, hv, hg, hh, hc, hm, _⟩
  · injection hv with _ h2 h3
    omega
  · injection hv with _ _ h3
    simp only [maxLen] at hm
    omega
/-- One element's cells, and that they may be written. -/
theorem Oc.at_ {w : World} {base k n c g : Nat} {T : TypeId} {xs : List Value} (h : Oc w base T k (some ⟨g, 0, none⟩) n c xs) (i : Nat) (hi : i < n) :
    w.rangeAt g (i * k) ((xs.drop (i * k)).take k) ∧ w.there g (i * k) k := by
  rcases h.row.2 with ⟨hv, hn⟩ | ⟨g', cap, cur, hv, hg, hh, hc, hm, hs, ht⟩
  · omega
  · injection hv with h1 h2 h3
    injection h1 with h1
    injection h1 with h1
    subst h1
    have hik : (i + 1) * k ≤ n * k := Nat.mul_le_mul_right k hi
    have hnk : n * k ≤ cap * k := Nat.mul_le_mul_right k hc
    rw [Nat.add_mul, Nat.one_mul] at hik
    constructor
    · intro j v hv
      have hj : j < k := by
        have := (List.getElem?_eq_some_iff.1 hv).1
        rw [List.length_take] at this
        omega
      rw [cell_of_row _ _ _ _ _ _ hh]
      rw [List.getElem?_take_of_lt hj, List.getElem?_drop, ← ht, List.getElem?_take_of_lt (by omega)] at hv
      rw [← Array.getElem?_toList]
      exact hv
    · intro j hj
      refine ⟨?_, by simp [World.frozen?, hh]⟩
      rw [cell_of_row _ _ _ _ _ _ hh, Array.getElem?_eq_getElem (by omega)]
      rfl
theorem setCells_row (w : World) (g : Nat) (T : TypeId) : ∀ (vs : List Value) (o : Nat) (w : World) (cur : Array Value), w.heap[g]? = some (.cells cur T (0, 0)) → o + vs.length ≤ cur.size →
    (w.setCells g o vs).heap[g]? = some (.cells (cur.toList.take o ++ (vs ++ cur.toList.drop (o + vs.length))).toArray T (0, 0)) ∧ OnlyB g w (w.setCells g o vs)
  | [], o, w, cur, h, ho => by
    rw [World.setCells]
    refine ⟨?_, OnlyB.refl g w⟩
    rw [h]
    simp
  | v :: r, o, w, cur, h, ho => by
    rw [World.setCells]
    have h1 : (w.setCell ⟨g, o, none⟩ v).heap[g]? = some (.cells (cur.setIfInBounds o v) T (0, 0)) := heap_setCell_same w g o _ _ v h
    simp only [List.length_cons] at ho
    obtain ⟨h2, h3⟩ := setCells_row w g T r (o + 1) _ _ h1 (by rw [Array.size_setIfInBounds]; omega)
    refine ⟨?_, ?_⟩
    · rw [h2]
      congr 3
      apply List.ext_getElem?
      intro i
      have hl1 : (List.take (o + 1) (cur.setIfInBounds o v).toList).length = o + 1 := by simp; omega
      have hl2 : (List.take o cur.toList).length = o := by simp; omega
      simp only [Array.toList_setIfInBounds, List.length_cons]
      rw [Array.toList_setIfInBounds] at hl1
      rcases Nat.lt_trichotomy i o with hi | hi | hi
      · rw [List.getElem?_append_left (by omega), List.getElem?_append_left (by omega), List.getElem?_take_of_lt (by omega), List.getElem?_take_of_lt hi, List.getElem?_set_ne (by omega)]
      · subst hi
        rw [List.getElem?_append_left (by omega), List.getElem?_take_of_lt (by omega), List.getElem?_append_right (by omega), hl2, Nat.sub_self, List.getElem?_set_self (by simp; omega)]
        rfl
      · have L1 : ∀ R1 : List Value, (List.take (o + 1) (cur.toList.set o v) ++ R1)[i]? = R1[i - (o + 1)]? := fun R1 => by rw [List.getElem?_append_right (by omega), hl1]
        have L2 : ∀ R2 : List Value, (List.take o cur.toList ++ (v :: r ++ R2))[i]? = (r ++ R2)[i - (o + 1)]? := fun R2 => by rw [List.getElem?_append_right (by omega), hl2, show i - o = (i - (o + 1)) + 1 by omega, List.cons_append, List.getElem?_cons_succ]
        rw [L1, L2]
        rcases Nat.lt_or_ge (i - (o + 1)) r.length with hr | hr
        · rw [List.getElem?_append_left hr, List.getElem?_append_left hr]
        · rw [List.getElem?_append_right hr, List.getElem?_append_right hr, List.getElem?_drop, List.getElem?_drop, List.getElem?_set_ne (by omega)]
          congr 1
          omega
    · exact ⟨h3.os, h3.tape, h3.output, by have := h3.size; simpa using this, fun i hi hne => (h3.block i (by simpa using hi) hne).trans (((OnlyB.refl g w).set o v).block i hi hne)⟩
/-- One element is another. -/
theorem Oc.put {w : World} {base k n c g : Nat} {T : TypeId} {xs : List Value} (h : Oc w base T k (some ⟨g, 0, none⟩) n c xs) (i : Nat) (hi : i < n) (vs : List Value) (hv : vs.length = k) (h1 : ∀ v, v ∈ vs → v.oneCell' = true) :
    Oc (w.setCells g (i * k) vs) base T k (some ⟨g, 0, none⟩) n c (xs.take (i * k) ++ (vs ++ xs.drop (i * k + k))) ∧ OnlyB g w (w.setCells g (i * k) vs) := by
  have hl := h.len
  have hik : (i + 1) * k ≤ n * k := Nat.mul_le_mul_right k hi
  rw [Nat.add_mul, Nat.one_mul] at hik
  rcases h.row.2 with ⟨hv', hn⟩ | ⟨g', cap, cur, hv', hg, hh, hc, hm, hs, ht⟩
  · omega
  · injection hv' with e1 e2 e3
    injection e1 with e1
    injection e1 with e1
    subst e1 e3
    have hnk : n * k ≤ c * k := Nat.mul_le_mul_right k hc
    obtain ⟨k1, k2⟩ := setCells_row w g T vs (i * k) w cur hh (by omega)
    refine ⟨⟨⟨by simp only [List.length_append, List.length_take, List.length_drop]; omega, .inr ⟨g, c, _, rfl, hg, k1, hc, hm, ?_, ?_⟩⟩, fun v hv => ?_, h.lim⟩, k2⟩
    · simp only [List.size_toArray, List.length_append, List.length_take, List.length_drop, Array.length_toList]
      omega
    · have e4 : (List.take (i * k) cur.toList).length = i * k := by rw [List.length_take, Array.length_toList]; omega
      rw [List.take_append, e4, List.take_of_length_le (by omega), List.take_append, List.take_of_length_le (l := vs) (by omega), hv, ← ht, List.take_take, Nat.min_eq_left (by omega), List.drop_take]
      congr 3
      omega
    · rcases List.mem_append.1 hv with hv | hv
      · exact h.one v (List.mem_of_mem_take hv)
      · rcases List.mem_append.1 hv with hv | hv
        · exact h1 v hv
        · exact h.one v (List.mem_of_mem_drop hv)
/-- A disk: its limit, its bytes, what was written since, and what is armed. -/
structure DV where
  limit : Int
  l : List UInt8
  row : List (Nat × List UInt8)
  ops : Int
  fuse : Int
  down : Bool
/-- The cells of what was written. -/
def wrv (row : List (Nat × List UInt8)) : List Value := row.flatMap fun p => .int .i64 (p.1 : Int) :: u8v p.2
structure DV.ok (d : DV) (n : Nat) : Prop where
  len : d.l.length = n * 64
  each : ∀ p, p ∈ d.row → p.2.length = 64 ∧ p.1 < n
  lim0 : 0 ≤ d.limit
  lim : d.limit ≤ 65536
  fuse : -1 ≤ d.fuse
/-- A disk in memory. -/
structure DM (w : World) (base g : Nat) (A : Option Addr) (n c : Nat) (B : Option Addr) (m e : Nat) (d : DV) : Prop where
  row : w.heap[g]? = some (.cells #[.int .i64 d.limit, .slice A n c, .slice B m e, .int .i64 d.ops, .int .i64 d.fuse, .bool d.down] 86)
  lo : base ≤ g
  sl : Oc w base 100 64 A n c (u8v d.l)
  sr : Oc w base 114 65 B m e (wrv d.row)
  na : ∀ k, A = some ⟨k, 0, none⟩ → k ≠ g
  nb : ∀ k, B = some ⟨k, 0, none⟩ → k ≠ g
  ab : ∀ k j, A = some ⟨k, 0, none⟩ → B = some ⟨j, 0, none⟩ → k ≠ j
theorem DM.below {w w1 : World} {base g n c m e : Nat} {A B : Option Addr} {d : DV} (h : DM w base g A n c B m e d) (hB : Below w.heap.size w w1) : DM w1 base g A n c B m e d :=
  ⟨(hB.block _ (Array.getElem?_eq_some_iff.1 h.row).1).trans h.row, h.lo, h.sl.below hB, h.sr.below hB, h.na, h.nb, h.ab⟩
theorem row6_cells {W : World} {g : Nat} {T : TypeId} {a b c d e f : Value} (k : W.heap[g]? = some (.cells #[a, b, c, d, e, f] T)) :
    W.cell? ⟨g, 0, none⟩ = some a ∧ W.cell? ⟨g, 1, none⟩ = some b ∧ W.cell? ⟨g, 2, none⟩ = some c ∧ W.cell? ⟨g, 3, none⟩ = some d ∧ W.cell? ⟨g, 4, none⟩ = some e ∧ W.cell? ⟨g, 5, none⟩ = some f :=
  ⟨by rw [cell_of_row _ _ _ _ _ _ k]; rfl, by rw [cell_of_row _ _ _ _ _ _ k]; rfl, by rw [cell_of_row _ _ _ _ _ _ k]; rfl, by rw [cell_of_row _ _ _ _ _ _ k]; rfl, by rw [cell_of_row _ _ _ _ _ _ k]; rfl, by rw [cell_of_row _ _ _ _ _ _ k]; rfl⟩
theorem DM.turn {w w1 : World} {base g n c m e : Nat} {A B : Option Addr} {d d1 : DV} (h : DM w base g A n c B m e d) (ho : OnlyB g w w1) (hl : d1.l = d.l) (hr : d1.row = d.row)
    (hrow : w1.heap[g]? = some (.cells #[.int .i64 d1.limit, .slice A n c, .slice B m e, .int .i64 d1.ops, .int .i64 d1.fuse, .bool d1.down] 86)) : DM w1 base g A n c B m e d1 :=
  ⟨hrow, h.lo, by rw [hl]; exact h.sl.only ho h.na, by rw [hr]; exact h.sr.only ho h.nb, h.na, h.nb, h.ab⟩
theorem dm_new (w : World) (x : Int) : DM (w.alloc (.cells #[.int .i64 x, .slice none 0 0, .slice none 0 0, .int .i64 0, .int .i64 (-1), .bool false] 86)) w.heap.size w.heap.size none 0 0 none 0 0 ⟨x, [], [], 0, -1, false⟩ :=
  ⟨heap_alloc_new _ _, Nat.le_refl _, Oc.nil _ _ _ _, Oc.nil _ _ _ _, fun _ h => (by cases h), fun _ h => (by cases h), fun _ _ h => (by cases h)⟩
/-- What grew behind a slice: all but its own block is as it was. -/
structure Grw (A : Option Addr) (W w1 : World) : Prop where
  os : w1.os = W.os
  tape : w1.tape = W.tape
  output : w1.output = W.output
  size : W.heap.size ≤ w1.heap.size
  block : ∀ k, k < W.heap.size → A ≠ some ⟨k, 0, none⟩ → w1.heap[k]? = W.heap[k]?
/-- append of one element of k cells. -/
theorem wpl_oc {P : Program} {ops : Array Oper} {rest : List Oper} {o : Oper} {a : Act} {Q : Exit → Act → World → Prop} {W : World} (base : Nat) (hgd : o.guard = none) (s x : Operand) (t T : TypeId) (z : Value) (k bytes : Nat)
    (ho : o.op = .call { callee := .builtin .append, args := #[s, x], argTypes := #[t, t] })
    (ht : P.underlying t = some (.slice T)) (hinfo : (P.info? T).map (fun i => (i.zero, i.size, i.bytes)) = some (some z, k, bytes)) (hzs : z.cells.size = k) (hk : 0 < k) (hb0 : 0 < bytes) (hb1 : bytes ≤ 1000)
    (A : Option Addr) (n c N : Nat) (xs news : List Value) (hs : a.eval s = .slice A n c) (hx : a.eval x = .slice (some ⟨N, 0, none⟩) 1 1)
    (HO : Oc W base T k A n c xs) (hnl : news.length = k) (hnew : W.rangeAt N 0 news) (h1 : ∀ u, u ∈ news → u.oneCell' = true) (hbase : base ≤ W.heap.size) (hn : n + 1 ≤ 1000000000)
    (h : ∀ A2 c2 w1, Aside0 (Oc w1 base T k A2 (n + 1) c2 (xs ++ news)) → Aside0 (Grw A W w1) → Aside0 (A2 = A ∨ A2 = some ⟨W.heap.size, 0, none⟩) → wpList P ops Q rest (a.put o.dst (.slice A2 (n + 1) c2)) w1) :
    wpList P ops Q (o :: rest) a W := by
  refine wpl_append (w0 := W) base hgd s x t T z k bytes ho ht hinfo hzs hk hb0 (.slice A n c) n xs (some ⟨N, 0, none⟩) 1 1 news hs hx HO.row (by rw [hnl, Nat.one_mul]) (fun _ => ⟨_, rfl, fun j u hu => ?_⟩) (fun u hu => h1 u hu) (Below.refl _ _) hbase ?_ ?_
  · rw [add_plain]
    have := hnew j u hu
    rwa [Nat.zero_add] at this
  · have := Nat.mul_le_mul hn hb1
    omega
  · intro v1 w1 hown hB hg hat
    obtain ⟨A2, c2, rfl⟩ := own_form hown
    refine h A2 c2 w1 ⟨⟨hown, fun u hu => ?_, hn⟩⟩ ⟨⟨hg.os, hg.tape, hg.output, hg.size, fun j hj hne => hg.block j hj ?_⟩⟩ ⟨?_⟩
    · rcases List.mem_append.1 hu with hu | hu
      · exact HO.one u hu
      · exact h1 u hu
    · rcases HO.addr with rfl | ⟨q, rfl, _⟩
      · intro e
        cases e
      · intro e
        simp only [Value.ownBlock, Option.some.injEq] at e
        exact hne (by rw [e])
    · have hO2 : Oc w1 base T k A2 (n + 1) c2 (xs ++ news) := ⟨hown, fun u hu => by
        rcases List.mem_append.1 hu with hu | hu
        · exact HO.one u hu
        · exact h1 u hu, hn⟩
      obtain ⟨q2, rfl, _⟩ := hO2.head (by omega)
      rcases hat with e | e
      · rcases HO.addr with rfl | ⟨q, rfl, _⟩
        · cases e
        · simp only [Value.ownBlock, Option.some.injEq] at e
          exact .inl (by rw [e])
      · simp only [Value.ownBlock, Option.some.injEq] at e
        exact .inr (by rw [e])
theorem Oc.grw {w w1 : World} {base k n c : Nat} {T : TypeId} {A B : Option Addr} {xs : List Value} (h : Oc w base T k A n c xs) (hg : Grw B w w1) (hne : ∀ i j, A = some ⟨i, 0, none⟩ → B = some ⟨j, 0, none⟩ → i ≠ j) : Oc w1 base T k A n c xs :=
  h.kept fun q e hq => hg.block q hq (fun e2 => hne q q e e2 rfl)
theorem DM.grown {w w1 : World} {base g n c m e : Nat} {A B : Option Addr} {d : DV} {o : Obj} (h : DM w base g A n c B m e d) (hg : Grw A (w.alloc o) w1) :
    w1.heap[g]? = some (.cells #[.int .i64 d.limit, .slice A n c, .slice B m e, .int .i64 d.ops, .int .i64 d.fuse, .bool d.down] 86) := by
  have hgl := (Array.getElem?_eq_some_iff.1 h.row).1
  exact (hg.block g (by simp; omega) (fun q => h.na g q rfl)).trans ((Below.heap_alloc _ _ _ hgl).trans h.row)
theorem Grw.below {A : Option Addr} {B : Nat} {w0 w w1 : World} {o : Obj} (hg : Grw A (w.alloc o) w1) (hb : Below B w0 w) (h : ∀ k, A = some ⟨k, 0, none⟩ → B ≤ k) (hB : B ≤ w.heap.size) : Below B w0 w1 :=
  ⟨hg.os.trans hb.os, hg.tape.trans hb.tape, hg.output.trans hb.output, Nat.le_trans hb.size (by have := hg.size; simp at this; omega), fun k hk => (hg.block k (by simp; omega) (fun e => by have := h k e; omega)).trans ((Below.heap_alloc _ _ _ (by omega)).trans (hb.block k hk))⟩
theorem Oc.lo {w : World} {base k n c : Nat} {T : TypeId} {A : Option Addr} {xs : List Value} (h : Oc w base T k A n c xs) (j : Nat) (e : A = some ⟨j, 0, none⟩) : base ≤ j := by
  rcases h.addr with q | ⟨i, q, q2, _⟩
  · rw [q] at e
    cases e
  · rw [q] at e
    injection e with e
    injection e with e
    omega
/-- A disk that has one sector more. -/
theorem DM.grow {w w1 : World} {base g n c m e : Nat} {A B A2 : Option Addr} {c2 : Nat} {d : DV} {s : List UInt8} {o : Obj} (h : DM w base g A n c B m e d) (hg : Grw A (w.alloc o) w1) (hO : Oc w1 base 100 64 A2 (n + 1) c2 (u8v d.l ++ u8v s)) (hat : A2 = A ∨ A2 = some ⟨(w.alloc o).heap.size, 0, none⟩) :
    DM (w1.setCell ⟨g, 1, none⟩ (.slice A2 (n + 1) c2)) base g A2 (n + 1) c2 B m e { d with l := d.l ++ s } := by
  have hgl := (Array.getElem?_eq_some_iff.1 h.row).1
  have ho := (OnlyB.refl g w1).set 1 (.slice A2 (n + 1) c2)
  have hr1 : w1.heap[g]? = some (.cells #[.int .i64 d.limit, .slice A n c, .slice B m e, .int .i64 d.ops, .int .i64 d.fuse, .bool d.down] 86) := (hg.block g (by simp; omega) (fun q => h.na g q rfl)).trans ((Below.heap_alloc _ _ _ hgl).trans h.row)
  have hBl : ∀ j, B = some ⟨j, 0, none⟩ → j < w.heap.size := fun j e => by
    rcases h.sr.addr with q | ⟨i, q, _, q2⟩
    · rw [q] at e
      cases e
    · rw [q] at e
      injection e with e
      injection e with e
      omega
  have na2 : ∀ k, A2 = some ⟨k, 0, none⟩ → k ≠ g := fun k q => by
    rcases hat with rfl | rfl
    · exact h.na k q
    · injection q with q
      injection q with q
      rw [← q]
      simp
      omega
  have ab2 : ∀ k j, A2 = some ⟨k, 0, none⟩ → B = some ⟨j, 0, none⟩ → k ≠ j := fun k j q r => by
    rcases hat with rfl | rfl
    · exact h.ab k j q r
    · injection q with q
      injection q with q
      have := hBl j r
      rw [← q]
      simp
      omega
  refine ⟨heap_setCell_same w1 g 1 _ _ _ hr1, h.lo, ?_, ?_, na2, h.nb, ab2⟩
  · rw [u8v_append]
    exact hO.only ho na2
  · exact ((h.sr.below ((Below.refl _ w).alloc (Nat.le_refl _) o)).grw hg (fun i j q r => (h.ab j i r q).symm)).only ho h.nb
/-- All but a disk's own blocks is as it was. -/
structure Fr (g : Nat) (A B : Option Addr) (w w1 : World) : Prop where
  os : w1.os = w.os
  tape : w1.tape = w.tape
  output : w1.output = w.output
  size : w.heap.size ≤ w1.heap.size
  block : ∀ i, i < w.heap.size → i ≠ g → A ≠ some ⟨i, 0, none⟩ → B ≠ some ⟨i, 0, none⟩ → w1.heap[i]? = w.heap[i]?
/-- A slice's block is the old one's, or is new. -/
def New (w : World) (A A1 : Option Addr) : Prop := A1 = A ∨ ∀ k, A1 = some ⟨k, 0, none⟩ → w.heap.size ≤ k
theorem New.ne {w : World} {A A1 : Option Addr} (h : New w A A1) (i : Nat) (hi : i < w.heap.size) (hA : A ≠ some ⟨i, 0, none⟩) : A1 ≠ some ⟨i, 0, none⟩ := by
  rcases h with rfl | h
  · exact hA
  · intro e
    have := h i e
    omega
theorem New.trans {w w1 : World} {A A1 A2 : Option Addr} (h : New w A A1) (k : New w1 A1 A2) (hs : w.heap.size ≤ w1.heap.size) : New w A A2 := by
  rcases k with rfl | k
  · exact h
  · exact .inr fun i e => by have := k i e; omega
theorem Fr.refl (g : Nat) (A B : Option Addr) (w : World) : Fr g A B w w := ⟨rfl, rfl, rfl, Nat.le_refl _, fun _ _ _ _ _ => rfl⟩
theorem Fr.trans {g : Nat} {A B A1 B1 : Option Addr} {w w1 w2 : World} (h : Fr g A B w w1) (k : Fr g A1 B1 w1 w2) (ha : New w A A1) (hb : New w B B1) : Fr g A B w w2 :=
  ⟨k.os.trans h.os, k.tape.trans h.tape, k.output.trans h.output, Nat.le_trans h.size k.size, fun i hi h1 h2 h3 => (k.block i (by have := h.size; omega) h1 (ha.ne i hi h2) (hb.ne i hi h3)).trans (h.block i hi h1 h2 h3)⟩
theorem Fr.of_below {g : Nat} {A B : Option Addr} {w w1 : World} (h : Below w.heap.size w w1) : Fr g A B w w1 := ⟨h.os, h.tape, h.output, h.size, fun i hi _ _ _ => h.block i hi⟩
theorem Fr.of_only {g : Nat} {A B : Option Addr} {w w1 : World} (h : OnlyB g w w1) : Fr g A B w w1 := ⟨h.os, h.tape, h.output, h.size, fun i hi h1 _ _ => h.block i hi h1⟩
theorem Fr.of_grw {g : Nat} {A B : Option Addr} {w w1 : World} (h : Grw A w w1) : Fr g A B w w1 := ⟨h.os, h.tape, h.output, h.size, fun i hi _ h2 _ => h.block i hi h2⟩
theorem Fr.of_grw' {g : Nat} {A B : Option Addr} {w w1 : World} (h : Grw B w w1) : Fr g A B w w1 := ⟨h.os, h.tape, h.output, h.size, fun i hi _ _ h3 => h.block i hi h3⟩
theorem Fr.below {g b0 : Nat} {A B : Option Addr} {w0 w w1 : World} (h : Fr g A B w w1) (hb : Below b0 w0 w) (hg : b0 ≤ g) (hA : ∀ k, A = some ⟨k, 0, none⟩ → b0 ≤ k) (hB : ∀ k, B = some ⟨k, 0, none⟩ → b0 ≤ k) (hs : b0 ≤ w.heap.size) : Below b0 w0 w1 :=
  ⟨h.os.trans hb.os, h.tape.trans hb.tape, h.output.trans hb.output, Nat.le_trans hb.size h.size, fun i hi => (h.block i (by omega) (by omega) (fun e => by have := hA i e; omega) (fun e => by have := hB i e; omega)).trans (hb.block i hi)⟩
end Go.Proofs.Ythhalmjapiempaa

set_option linter.unusedVariables false
set_option linter.unusedSimpArgs false
namespace Go.Proofs.Ythhalmjapiempaa
open Go.RowKit

def limI (limit : Int) : Int := if limit < 0 then 0 else if 65536 < limit then 65536 else limit
set_option maxHeartbeats 1000000 in
theorem size_any (base g : Nat) (A : Option Addr) (n c : Nat) (B : Option Addr) (m e : Nat) (d : DV) (w : World) (h : DM w base g A n c B m e d) :
    Calls Try.prog 29 #[.pointer (some ⟨g, 0, none⟩)] w fun e w' => e = .returned (.int .i64 (n : Int)) ∧ w = w' := by
  obtain ⟨c0, c1, c2, c3, c4, c5⟩ := row6_cells h.row
  go_enter Try.func29, Try.ntmps29
  go_wp2
  go_ret
  exact ⟨rfl, rfl⟩
set_option maxHeartbeats 1000000 in
theorem limit_any (base g : Nat) (A : Option Addr) (n c : Nat) (B : Option Addr) (m e : Nat) (d : DV) (w : World) (h : DM w base g A n c B m e d) :
    Calls Try.prog 31 #[.pointer (some ⟨g, 0, none⟩)] w fun e w' => e = .returned (.int .i64 d.limit) ∧ w = w' := by
  obtain ⟨c0, c1, c2, c3, c4, c5⟩ := row6_cells h.row
  go_enter Try.func31, Try.ntmps31
  go_wp2
  go_ret
  exact ⟨rfl, rfl⟩
set_option maxHeartbeats 1000000 in
theorem down_any (base g : Nat) (A : Option Addr) (n c : Nat) (B : Option Addr) (m e : Nat) (d : DV) (w : World) (h : DM w base g A n c B m e d) :
    Calls Try.prog 47 #[.pointer (some ⟨g, 0, none⟩)] w fun e w' => e = .returned (.bool d.down) ∧ w = w' := by
  obtain ⟨c0, c1, c2, c3, c4, c5⟩ := row6_cells h.row
  go_enter Try.func47, Try.ntmps47
  go_wp2
  go_ret
  exact ⟨rfl, rfl⟩
set_option maxHeartbeats 1000000 in
theorem ops_any (base g : Nat) (A : Option Addr) (n c : Nat) (B : Option Addr) (m e : Nat) (d : DV) (w : World) (h : DM w base g A n c B m e d) :
    Calls Try.prog 32 #[.pointer (some ⟨g, 0, none⟩)] w fun e w' => e = .returned (.int .i64 d.ops) ∧ w = w' := by
  obtain ⟨c0, c1, c2, c3, c4, c5⟩ := row6_cells h.row
  go_enter Try.func32, Try.ntmps32
  go_wp2
  go_ret
  exact ⟨rfl, rfl⟩
set_option maxHeartbeats 1000000 in
theorem pending_any (base g : Nat) (A : Option Addr) (n c : Nat) (B : Option Addr) (m e : Nat) (d : DV) (w : World) (h : DM w base g A n c B m e d) :
    Calls Try.prog 33 #[.pointer (some ⟨g, 0, none⟩)] w fun e w' => e = .returned (.int .i64 (m : Int)) ∧ w = w' := by
  obtain ⟨c0, c1, c2, c3, c4, c5⟩ := row6_cells h.row
  go_enter Try.func33, Try.ntmps33
  go_wp2
  go_ret
  exact ⟨rfl, rfl⟩
set_option maxHeartbeats 1000000 in
set_option maxRecDepth 100000 in
theorem new_any (limit : Int) (w : World) :
    Calls Try.prog 12 #[.int .i64 limit] w fun e w' => ∃ g, e = .returned (.pointer (some ⟨g, 0, none⟩)) ∧ DM w' w.heap.size g none 0 0 none 0 0 ⟨limI limit, [], [], 0, -1, false⟩ ∧ Below w.heap.size w w' := by
  rcases (show limit < 0 ∨ (0 ≤ limit ∧ 65536 < limit) ∨ (0 ≤ limit ∧ limit ≤ 65536) by omega) with h | ⟨h, k⟩ | ⟨h, k⟩
  · have d1 : limI limit = 0 := if_pos h
    rw [d1]
    go_enter Try.func12, Try.ntmps12
    go_wp2
    go_ret
    exact ⟨_, rfl, dm_new w 0, (Below.refl _ _).alloc (Nat.le_refl _) _⟩
  · have d1 : limI limit = 65536 := (if_neg (by omega)).trans (if_pos k)
    rw [d1]
    go_enter Try.func12, Try.ntmps12
    go_wp2
    go_ret
    exact ⟨_, rfl, dm_new w 65536, (Below.refl _ _).alloc (Nat.le_refl _) _⟩
  · have d1 : limI limit = limit := (if_neg (by omega)).trans (if_neg (by omega))
    rw [d1]
    go_enter Try.func12, Try.ntmps12
    go_wp2
    go_ret
    exact ⟨_, rfl, dm_new w limit, (Below.refl _ _).alloc (Nat.le_refl _) _⟩
set_option maxHeartbeats 1000000 in
set_option maxRecDepth 100000 in
theorem arm_any (base g : Nat) (A : Option Addr) (n c : Nat) (B : Option Addr) (m e : Nat) (d : DV) (k : Int) (w : World) (h : DM w base g A n c B m e d) :
    Calls Try.prog 21 #[.pointer (some ⟨g, 0, none⟩), .int .i64 k] w fun e' w' => e' = .returned (.tuple #[]) ∧ DM w' base g A n c B m e { d with fuse := if k < -1 then -1 else k } ∧ OnlyB g w w' := by
  obtain ⟨c0, c1, c2, c3, c4, c5⟩ := row6_cells h.row
  have ff := fun j => Go.Joins.unfrozen_of_block h.row j
  by_cases hk : k < -1
  · rw [if_pos hk]
    have HD := Aside0.mk (h.turn (d1 := { d with fuse := -1 }) (((OnlyB.refl g w).set 4 (.int .i64 (-1)))) rfl rfl (heap_setCell_same w g 4 _ _ (.int .i64 (-1)) h.row))
    go_enter Try.func21, Try.ntmps21
    go_wp2
    first | go_end0 | refine bodyPost_ret (results_none rfl _ _ _) rfl ?_
    exact ⟨rfl, HD.out, (OnlyB.refl g w).set 4 _⟩
  · rw [if_neg hk]
    have HD := Aside0.mk (h.turn (d1 := { d with fuse := k }) (((OnlyB.refl g w).set 4 (.int .i64 k))) rfl rfl (heap_setCell_same w g 4 _ _ (.int .i64 k) h.row))
    go_enter Try.func21, Try.ntmps21
    go_wp2
    first | go_end0 | refine bodyPost_ret (results_none rfl _ _ _) rfl ?_
    exact ⟨rfl, HD.out, (OnlyB.refl g w).set 4 _⟩
/-- An op more. -/
def opD (d : DV) : DV := { d with ops := d.ops + 1, down := d.fuse == 0, fuse := if d.fuse - 1 < -1 then -1 else d.fuse - 1 }
set_option maxHeartbeats 1000000 in
set_option maxRecDepth 100000 in
theorem op_any (base g : Nat) (A : Option Addr) (n c : Nat) (B : Option Addr) (m e : Nat) (d : DV) (w : World) (h : DM w base g A n c B m e d) (h0 : 0 ≤ d.ops) (h1 : d.ops ≤ 1000000) (h2 : -1 ≤ d.fuse) (h3 : d.fuse ≤ 9223372036854775807) :
    Calls Try.prog 95 #[.pointer (some ⟨g, 0, none⟩)] w fun e' w' => e' = .returned (.bool (!(opD d).down)) ∧ DM w' base g A n c B m e (opD d) ∧ OnlyB g w w' := by
  obtain ⟨c0, c1, c2, c3, c4, c5⟩ := row6_cells h.row
  have ff := fun j => Go.Joins.unfrozen_of_block h.row j
  have key : ∀ x : Int, (if d.fuse - 1 < -1 then -1 else d.fuse - 1) = x → DM (((w.setCell ⟨g, 3, none⟩ (.int .i64 (d.ops + 1))).setCell ⟨g, 5, none⟩ (.bool (d.fuse == 0))).setCell ⟨g, 4, none⟩ (.int .i64 x)) base g A n c B m e (opD d) ∧ OnlyB g w (((w.setCell ⟨g, 3, none⟩ (.int .i64 (d.ops + 1))).setCell ⟨g, 5, none⟩ (.bool (d.fuse == 0))).setCell ⟨g, 4, none⟩ (.int .i64 x)) := by
    intro x hx
    have ho := (((OnlyB.refl g w).set 3 (.int .i64 (d.ops + 1))).set 5 (.bool (d.fuse == 0))).set 4 (.int .i64 x)
    refine ⟨h.turn ho rfl rfl ?_, ho⟩
    have r := heap_setCell_same _ g 4 _ _ (.int .i64 x) (heap_setCell_same _ g 5 _ _ (.bool (d.fuse == 0)) (heap_setCell_same w g 3 _ _ (.int .i64 (d.ops + 1)) h.row))
    rw [r]
    unfold opD
    rw [hx]
    rfl
  have HK := Aside0.mk key
  clear key
  by_cases hf : d.fuse - 1 < -1
  · have hx : (if d.fuse - 1 < -1 then -1 else d.fuse - 1) = -1 := if_pos hf
    have HX := Aside0.mk hx
    clear hx
    go_enter Try.func95, Try.ntmps95
    go_wp2
    go_ret
    exact ⟨rfl, HK.out _ HX.out⟩
  · have hx : (if d.fuse - 1 < -1 then -1 else d.fuse - 1) = d.fuse - 1 := if_neg hf
    have HX := Aside0.mk hx
    clear hx
    go_enter Try.func95, Try.ntmps95
    go_wp2
    go_ret
    exact ⟨rfl, HK.out _ HX.out⟩
def hasB (n : Nat) (at_ many : Int) : Bool := decide (0 ≤ at_ ∧ 0 ≤ many ∧ at_ ≤ (n : Int) ∧ many ≤ (n : Int) - at_)
set_option maxHeartbeats 4000000 in
set_option maxRecDepth 100000 in
theorem hasd_any (base g : Nat) (A : Option Addr) (n c : Nat) (B : Option Addr) (m e : Nat) (d : DV) (at_ many : Int) (w : World) (h : DM w base g A n c B m e d) :
    Calls Try.prog 84 #[.pointer (some ⟨g, 0, none⟩), .int .i64 at_, .int .i64 many] w fun e' w' => e' = .returned (.bool (hasB n at_ many)) ∧ w = w' := by
  obtain ⟨c0, c1, c2, c3, c4, c5⟩ := row6_cells h.row
  have hl := h.sl.lim
  by_cases g1 : 0 ≤ at_
  · by_cases g2 : 0 ≤ many
    · by_cases g3 : at_ ≤ (n : Int)
      · have d1 : decide (0 ≤ at_) = true := decide_eq_true g1
        have d2 : decide (0 ≤ many) = true := decide_eq_true g2
        have d3 : decide (at_ ≤ (n : Int)) = true := decide_eq_true g3
        have hv : hasB n at_ many = decide (many ≤ (n : Int) - at_) := by unfold hasB; simp [g1, g2, g3]
        have HV := Aside0.mk hv
        clear hv
        go_enter Try.func84, Try.ntmps84
        go_wp2_with fail
        go_ret
        exact ⟨ret_bool HV.out.symm, rfl⟩
      · have d1 : decide (0 ≤ at_) = true := decide_eq_true g1
        have d2 : decide (0 ≤ many) = true := decide_eq_true g2
        have d3 : decide (at_ ≤ (n : Int)) = false := decide_eq_false g3
        have HV := Aside0.mk (show hasB n at_ many = false from decide_eq_false (fun k => by omega))
        go_enter Try.func84, Try.ntmps84
        go_wp2_with fail
        go_ret
        exact ⟨ret_bool HV.out.symm, rfl⟩
    · have d1 : decide (0 ≤ at_) = true := decide_eq_true g1
      have d2 : decide (0 ≤ many) = false := decide_eq_false g2
      have HV := Aside0.mk (show hasB n at_ many = false from decide_eq_false (fun k => by omega))
      go_enter Try.func84, Try.ntmps84
      go_wp2_with fail
      go_ret
      exact ⟨ret_bool HV.out.symm, rfl⟩
  · have d1 : decide (0 ≤ at_) = false := decide_eq_false g1
    have HV := Aside0.mk (show hasB n at_ many = false from decide_eq_false (fun k => by omega))
    go_enter Try.func84, Try.ntmps84
    go_wp2_with fail
    go_ret
    exact ⟨ret_bool HV.out.symm, rfl⟩
end Go.Proofs.Ythhalmjapiempaa

set_option linter.unusedVariables false
set_option linter.unusedSimpArgs false
namespace Go.Proofs.Ythhalmjapiempaa
open Go.RowKit

def z64 : Array Value := (u8v (List.replicate 64 0)).toArray
set_option maxRecDepth 100000 in
theorem info54 : (Try.prog.info? 100).map (fun i => (i.zero, i.size, i.bytes)) = some (some (.agg z64), 64, 64) := by kernel_rfl
theorem lit_range (w : World) (C : Array Value) (T : TypeId) (vs : List Value) (hC : C = vs.toArray) : (w.alloc (.cells C T)).rangeAt w.heap.size 0 vs := by
  subst hC
  intro j v hv
  rw [cell_of_row _ _ _ _ _ _ (heap_alloc_new w _), Nat.zero_add]
  simpa using hv
def GrowQ (w : World) (base g n : Nat) (A B : Option Addr) (m e : Nat) (d : DV) (k : Int) (w' : World) : Prop := ∃ A1 c1, DM w' base g A1 (n + (k.toNat - n)) c1 B m e { d with l := d.l ++ List.replicate (64 * (k.toNat - n)) 0 } ∧ Fr g A B w w' ∧ New w A A1
set_option maxHeartbeats 4000000 in
set_option maxRecDepth 100000 in
theorem grow_any (base g : Nat) (A : Option Addr) (n c : Nat) (B : Option Addr) (m e : Nat) (d : DV) (k : Int) (w : World) (h : DM w base g A n c B m e d) (hd : d.down = false) (hk : k ≤ d.limit) (hk2 : k ≤ 65536) :
    Calls Try.prog 74 #[.pointer (some ⟨g, 0, none⟩), .int .i64 k] w fun e' w' => e' = .returned (.int .i64 0) ∧ GrowQ w base g n A B m e d k w' := by
  obtain ⟨c0, c1, c2, c3, c4, c5⟩ := row6_cells h.row
  rw [hd] at c5
  clear hd
  have d1 : decide (d.limit < k) = false := decide_eq_false (by omega)
  have HD := Aside0.mk h
  have hl0 := h.sl.lim
  go_enter Try.func74, Try.ntmps74
  go_wp2_with fail
  clear c0 c1 c2 c3 c4 c5 d1 h
  go_loopg [] (k.toNat - n) (fun gk wr => Aside0 (∃ A1 n1 c1 j, gk = k.toNat - n1 ∧ n1 = n + j ∧ (n1 : Int) ≤ max (n : Int) k ∧ DM wr base g A1 n1 c1 B m e { d with l := d.l ++ List.replicate (64 * j) 0 } ∧ Fr g A B w wr ∧ New w A A1))
  case atStart => exact ⟨⟨A, n, c, 0, rfl, rfl, by omega, by simpa using HD.out, Fr.refl _ _ _ _, .inl rfl⟩⟩
  case round =>
    obtain ⟨A1, n1, cc, j, hgk, hn, hm, hD, hB⟩ := hrel.out
    obtain ⟨c0, c1, c2, c3, c4, c5⟩ := row6_cells hD.row
    have ff := fun j => Go.Joins.unfrozen_of_block hD.row j
    have HM := Aside0.mk (And.intro hD hB)
    have HN := Aside0.mk (And.intro hgk (And.intro hn hm))
    have hlo := hD.lo
    have hgs := (Array.getElem?_eq_some_iff.1 hD.row).1
    clear hrel hD hB HD hgk hn hm
    by_cases hlt : (n1 : Int) < k
    · have d2 : decide ((n1 : Int) < k) = true := decide_eq_true hlt
      go_wp2_with (at_builtin; refine wpl_oc base rfl _ _ 83 100 (.agg z64) 64 64 rfl Try.underlying83 info54 rfl (by omega) (by omega) (by omega) A1 n1 _ wr.heap.size (u8v (d.l ++ List.replicate (64 * j) 0)) (u8v (List.replicate 64 0)) rfl rfl (HM.out.1.sl.below ((Below.refl _ wr).alloc (Nat.le_refl _) _)) (by rw [u8v_length, List.length_replicate]) (lit_range wr _ _ _ (by kernel_rfl)) (u8v_one _) (by simp; omega) (by omega) ?_; intro A2 c2 w1 hO hG hA; (have HM2 := Aside0.mk (HM.out.1.grow hG.out hO.out hA.out)); (obtain ⟨e0, e1, e2, e3, e4, e5⟩ := row6_cells (HM.out.1.grown hG.out)); (have ef := fun j => Go.Joins.unfrozen_of_block (HM.out.1.grown hG.out) j))
      go_roundg (k.toNat - (n1 + 1))
      case measure => have := HN.out.1; omega
      case rel =>
        refine ⟨⟨A2, n1 + 1, c2, j + 1, rfl, by have := HN.out.2.1; omega, by omega, ?_, ?_, ?_⟩⟩
        rotate_left
        · exact (((HM.out.2.1.trans (Fr.of_below ((Below.refl _ wr).alloc (Nat.le_refl _) _)) HM.out.2.2 (.inl rfl)).trans (Fr.of_grw hG.out) HM.out.2.2 (.inl rfl)).trans (Fr.of_only ((OnlyB.refl g w1).set 1 _)) (A1 := A2) (HM.out.2.2.trans (hA.out.elim (fun q => .inl q) (fun q => .inr fun i e => by rw [q] at e; injection e with e; injection e with e; rw [← e]; exact Nat.le_refl _)) (Nat.le_trans HM.out.2.1.size (by simp))) (.inl rfl))
        · exact HM.out.2.2.trans (w1 := wr) (hA.out.elim (fun q => .inl q) (fun q => .inr fun i e => by rw [q] at e; injection e with e; injection e with e; rw [← e]; simp)) HM.out.2.1.size
        have := HM2.out
        rw [show 64 * (j + 1) = 64 * j + 64 by omega, ← List.replicate_append_replicate, ← List.append_assoc]
        exact this
    · have d2 : decide ((n1 : Int) < k) = false := decide_eq_false hlt
      go_wp2_with fail
      go_ret
      obtain ⟨q1, q2, q3⟩ := HN.out
      have hj : j = k.toNat - n := by omega
      refine ⟨rfl, A1, cc, ?_, HM.out.2.1, HM.out.2.2⟩
      rw [← hj, ← q2]
      exact HM.out.1
end Go.Proofs.Ythhalmjapiempaa

set_option linter.unusedVariables false
set_option linter.unusedSimpArgs false
namespace Go.Proofs.Ythhalmjapiempaa
open Go.RowKit

set_option maxHeartbeats 1000000 in
set_option maxRecDepth 100000 in
theorem grow_down (base g : Nat) (A : Option Addr) (n c : Nat) (B : Option Addr) (m e : Nat) (d : DV) (k : Int) (w : World) (h : DM w base g A n c B m e d) (hd : d.down = true) :
    Calls Try.prog 74 #[.pointer (some ⟨g, 0, none⟩), .int .i64 k] w fun e' w' => e' = .returned (.int .i64 10) ∧ w = w' := by
  obtain ⟨c0, c1, c2, c3, c4, c5⟩ := row6_cells h.row
  rw [hd] at c5
  clear hd
  go_enter Try.func74, Try.ntmps74
  go_wp2_with fail
  go_ret
  exact ⟨rfl, rfl⟩
set_option maxHeartbeats 1000000 in
set_option maxRecDepth 100000 in
theorem grow_full (base g : Nat) (A : Option Addr) (n c : Nat) (B : Option Addr) (m e : Nat) (d : DV) (k : Int) (w : World) (h : DM w base g A n c B m e d) (hd : d.down = false) (hk : d.limit < k) :
    Calls Try.prog 74 #[.pointer (some ⟨g, 0, none⟩), .int .i64 k] w fun e' w' => e' = .returned (.int .i64 12) ∧ w = w' := by
  obtain ⟨c0, c1, c2, c3, c4, c5⟩ := row6_cells h.row
  rw [hd] at c5
  have d1 : decide (d.limit < k) = true := decide_eq_true hk
  clear hd hk
  go_enter Try.func74, Try.ntmps74
  go_wp2_with fail
  go_ret
  exact ⟨rfl, rfl⟩
/-- A slice of elements of k cells, read. -/
structure Rc (w : World) (k : Nat) (A : Option Addr) (n c : Nat) (xs : List Value) : Prop where
  len : xs.length = n * k
  le : n ≤ c
  cap : c ≤ 9223372036854775807
  lim : n ≤ 1000000000
  one : ∀ v, v ∈ xs → v.oneCell' = true
  cells : 0 < n → ∃ ad, A = some ad ∧ ∀ j u, xs[j]? = some u → w.cell? (ad.add j) = some u
theorem Oc.rc {w : World} {base k n c : Nat} {T : TypeId} {A : Option Addr} {xs : List Value} (h : Oc w base T k A n c xs) : Rc w k A n c xs := by
  refine ⟨h.len, h.cap.1, h.cap.2, h.lim, h.one, fun h0 => ?_⟩
  obtain ⟨g, rfl, _, _⟩ := h.head h0
  exact ⟨_, rfl, fun j u hu => h.row.cells (g := g) rfl j u hu⟩
theorem Rc.below {w w1 : World} {k n c : Nat} {A : Option Addr} {xs : List Value} (h : Rc w k A n c xs) (hB : Below w.heap.size w w1) : Rc w1 k A n c xs :=
  ⟨h.len, h.le, h.cap, h.lim, h.one, fun h0 => by
    obtain ⟨ad, e, hx⟩ := h.cells h0
    exact ⟨ad, e, fun j u hu => cell_below hB (hx j u hu)⟩⟩
/-- append of all elements of another one. -/
theorem wpl_rc {P : Program} {ops : Array Oper} {rest : List Oper} {o : Oper} {a : Act} {Q : Exit → Act → World → Prop} {W : World} (base : Nat) (hgd : o.guard = none) (s x : Operand) (t T : TypeId) (z : Value) (k bytes : Nat)
    (ho : o.op = .call { callee := .builtin .append, args := #[s, x], argTypes := #[t, t] })
    (ht : P.underlying t = some (.slice T)) (hinfo : (P.info? T).map (fun i => (i.zero, i.size, i.bytes)) = some (some z, k, bytes)) (hzs : z.cells.size = k) (hk : 0 < k) (hb0 : 0 < bytes) (hb1 : bytes ≤ 1000)
    (A : Option Addr) (c : Nat) (B : Option Addr) (m e : Nat) (ys : List Value) (hs : a.eval s = .slice A 0 c) (hx : a.eval x = .slice B m e)
    (HO : Oc W base T k A 0 c []) (HY : Rc W k B m e ys) (hbase : base ≤ W.heap.size) {w0 : World} (HB : Below base w0 W)
    (h : ∀ A2 c2 w1, Aside0 (Oc w1 base T k A2 m c2 ys) → Aside0 (Below base w0 w1) → wpList P ops Q rest (a.put o.dst (.slice A2 m c2)) w1) :
    wpList P ops Q (o :: rest) a W := by
  refine wpl_append (w0 := w0) base hgd s x t T z k bytes ho ht hinfo hzs hk hb0 (.slice A 0 c) 0 [] B m e ys hs hx HO.row HY.len HY.cells (fun u hu => HY.one u hu) HB hbase ?_ ?_
  · rw [Nat.zero_add]
    have := Nat.mul_le_mul HY.lim hb1
    omega
  · intro v1 w1 hown hB hg hat
    rw [Nat.zero_add, List.nil_append] at hown
    obtain ⟨A2, c2, rfl⟩ := own_form hown
    exact h A2 c2 w1 ⟨⟨hown, HY.one, HY.lim⟩⟩ ⟨hB⟩
theorem Oc.lit0 (w : World) (base : Nat) (T : TypeId) (k : Nat) (h : base ≤ w.heap.size) : Oc (w.alloc (.cells #[] T)) base T k (some ⟨w.heap.size, 0, none⟩) 0 0 [] :=
  ⟨by simpa using World.ownsRow_lit (base := base) (e := T) (size := k) w #[] 0 h (by simp [maxLen]) (by simp), fun _ h => absurd h List.not_mem_nil, by omega⟩
set_option maxHeartbeats 1000000 in
set_option maxRecDepth 100000 in
theorem cloneS_any (A : Option Addr) (n c : Nat) (xs : List Value) (w : World) (hb : Rc w 64 A n c xs) :
    Calls Try.prog 78 #[.slice A n c] w fun e w' => ∃ A' c', e = .returned (.slice A' n c') ∧ Oc w' w.heap.size 100 64 A' n c' xs ∧ Below w.heap.size w w' := by
  have hlim := hb.lim
  have hnil := fun W => Lib.run_eql_slice_nil (P := Try.prog) W 83 100 A n c 0 0 Try.underlying83
  have HB := Aside0.mk hb
  go_enter Try.func78, Try.ntmps78
  rcases A with _ | ad
  · have h0 : n = 0 := by
      rcases Nat.eq_zero_or_pos n with h | h
      · exact h
      · obtain ⟨ad, h, _⟩ := hb.cells h
        cases h
    subst h0
    obtain rfl : xs = [] := List.eq_nil_of_length_eq_zero (by rw [hb.len])
    clear hb
    go_wp2_with fail
    all_goals (go_ret; exact ⟨none, 0, rfl, Oc.nil _ _ _ _, Below.refl _ _⟩)
  · clear hb
    have HO' := Aside0.mk (Oc.lit0 w w.heap.size 100 64 (Nat.le_refl _))
    go_wp2_with (at_builtin; (refine wpl_rc (w0 := w) w.heap.size rfl _ _ 83 100 (.agg z64) 64 64 rfl Try.underlying83 info54 rfl (by omega) (by omega) (by omega) _ 0 (some ad) n c xs rfl rfl HO'.out (HB.out.below ((Below.refl _ _).alloc (Nat.le_refl _) _)) (by simp) ((Below.refl _ _).alloc (Nat.le_refl _) _) ?_); intro A2 c2 w1 hO hB)
    go_ret
    exact ⟨A2, c2, rfl, hO.out, hB.out⟩
def z65 : Array Value := #[Value.int .i64 0] ++ z64
set_option maxRecDepth 100000 in
theorem info59 : (Try.prog.info? 114).map (fun i => (i.zero, i.size, i.bytes)) = some (some (.agg z65), 65, 72) := by kernel_rfl
theorem zero59 : ∀ w, (zeroValue 114).run Try.prog w = .ok (.agg z65) w := (zero_of_info (v := .agg z65) (n := 65) (by kernel_rfl)).1
theorem zero54 : ∀ w, (zeroValue 100).run Try.prog w = .ok (.agg z64) w := (zero_of_info (v := .agg z64) (n := 64) (by kernel_rfl)).1
theorem there_new (w : World) (C : Array Value) (T : TypeId) (k : Nat) (hk : C.size = k) : (w.alloc (.cells C T)).there w.heap.size 0 k := by
  intro j hj
  have hh : (w.alloc (.cells C T)).heap[w.heap.size]? = some (.cells C T (0, 0)) := heap_alloc_new w _
  refine ⟨?_, Go.Joins.unfrozen_of_block hh (0 + j)⟩
  rw [cell_of_row _ _ _ _ _ _ (heap_alloc_new w _), Nat.zero_add, Array.getElem?_eq_getElem (by omega)]
  rfl
theorem box_new (w : World) (C : Array Value) (T : TypeId) (vs : List Value) (hk : C.size = vs.length) : ((w.alloc (.cells C T)).setCells w.heap.size 0 vs).heap[w.heap.size]? = some (.cells vs.toArray T) ∧ Below w.heap.size w ((w.alloc (.cells C T)).setCells w.heap.size 0 vs) := by
  obtain ⟨h1, h2⟩ := setCells_row w w.heap.size T vs 0 (w.alloc (.cells C T)) C (heap_alloc_new w _) (by omega)
  refine ⟨?_, h2.below ((Below.refl _ w).alloc (Nat.le_refl _) _) (Nat.le_refl _) (Nat.le_refl _)⟩
  rw [h1, List.take_zero, List.nil_append, Nat.zero_add, List.drop_of_length_le (by rw [Array.length_toList]; omega), List.append_nil]
theorem range_row {w : World} {g : Nat} {T : TypeId} {vs : List Value} (h : w.heap[g]? = some (.cells vs.toArray T)) (o : Nat) (us : List Value) (hu : (vs.drop o).take us.length = us) : w.rangeAt g o us := by
  intro j v hv
  have hj := (List.getElem?_eq_some_iff.1 hv).1
  rw [cell_of_row _ _ _ _ _ _ h]
  rw [← hu, List.getElem?_take_of_lt hj, List.getElem?_drop] at hv
  simpa using hv
end Go.Proofs.Ythhalmjapiempaa

set_option linter.unusedVariables false
set_option linter.unusedSimpArgs false
namespace Go.Proofs.Ythhalmjapiempaa
open Go.RowKit

/-- What was written, over what is durable. -/
def seenL (l : List UInt8) : List (Nat × List UInt8) → List UInt8
  | [] => l
  | p :: r => seenL (putL l p.2 (64 * p.1)) r
theorem seenL_snoc (l : List UInt8) (r : List (Nat × List UInt8)) (p : Nat × List UInt8) : seenL l (r ++ [p]) = putL (seenL l r) p.2 (64 * p.1) := by
  induction r generalizing l with
  | nil => rfl
  | cons q r ih => exact ih _
theorem u8v_put (l s : List UInt8) (a k : Nat) (hs : s.length = k) : (u8v l).take a ++ (u8v s ++ (u8v l).drop (a + k)) = u8v (putL l s a) := by
  unfold putL
  rw [u8v_append, u8v_append, hs]
  simp [u8v, List.map_take, List.map_drop]
def wrc (p : Nat × List UInt8) : List Value := .int .i64 (p.1 : Int) :: u8v p.2
theorem wrv_cons (p : Nat × List UInt8) (r : List (Nat × List UInt8)) : wrv (p :: r) = wrc p ++ wrv r := by simp [wrv, wrc]
theorem wrc_len {p : Nat × List UInt8} (h : p.2.length = 64) : (wrc p).length = 65 := by simp [wrc, u8v_length, h]
theorem wrc_one (p : Nat × List UInt8) : ∀ v, v ∈ wrc p → v.oneCell' = true := fun v hv => by
  rcases List.mem_cons.1 hv with rfl | hv
  · rfl
  · exact u8v_one _ v hv
theorem wrv_len (row : List (Nat × List UInt8)) (h : ∀ p, p ∈ row → p.2.length = 64) : (wrv row).length = row.length * 65 := by
  induction row with
  | nil => rfl
  | cons p r ih =>
    rw [wrv_cons, List.length_append, wrc_len (h p List.mem_cons_self), ih (fun q hq => h q (List.mem_cons_of_mem _ hq)), List.length_cons]
    omega
theorem wrv_at (row : List (Nat × List UInt8)) (h : ∀ p, p ∈ row → p.2.length = 64) (j : Nat) (hj : j < row.length) : ((wrv row).drop (j * 65)).take 65 = wrc row[j] := by
  induction row generalizing j with
  | nil => exact absurd hj (by simp)
  | cons p r ih =>
    have hp := wrc_len (h p List.mem_cons_self)
    rw [wrv_cons]
    cases j with
    | zero =>
      rw [Nat.zero_mul, List.drop_zero, List.take_left' hp]
      rfl
    | succ j =>
      rw [show (j + 1) * 65 = 65 + j * 65 by omega, ← List.drop_drop, List.drop_left' hp]
      exact ih (fun q hq => h q (List.mem_cons_of_mem _ hq)) j (by simpa using hj)
theorem DM.rows {w : World} {base g n c m e : Nat} {A B : Option Addr} {d : DV} (h : DM w base g A n c B m e d) (ok : d.ok n) : d.row.length = m := by
  have h1 := h.sr.len
  rw [wrv_len d.row (fun p hp => (ok.each p hp).1)] at h1
  omega
set_option maxHeartbeats 4000000 in
set_option maxRecDepth 100000 in
theorem seen_any (base g : Nat) (A : Option Addr) (n c : Nat) (B : Option Addr) (m e : Nat) (d : DV) (w : World) (h : DM w base g A n c B m e d) (ok : d.ok n) :
    Calls Try.prog 50 #[.pointer (some ⟨g, 0, none⟩)] w fun e' w' => ∃ A1 c1, e' = .returned (.slice A1 n c1) ∧ Oc w' w.heap.size 100 64 A1 n c1 (u8v (seenL d.l d.row)) ∧ Below w.heap.size w w' := by
  have HD := Aside0.mk h
  obtain ⟨c0, c1, c2, c3, c4, c5⟩ := row6_cells h.row
  go_enter Try.func50, Try.ntmps50
  go_wp2_with (go_at_call 78; refine (cloneS_any A n c _ w HD.out.sl.rc).mono ?_; rintro e1 w1 ⟨A1, cc, rfl, hO, hB⟩; (have HD1 := Aside0.mk (HD.out.below hB)); (have HO := Aside0.mk hO); (have HB := Aside0.mk hB); clear hO hB; (obtain ⟨c0, c1, c2, c3, c4, c5⟩ := row6_cells HD1.out.row))
  have hrl := HD.out.rows ok
  have hl0 := HD.out.sl.lim
  have hl1 := HD.out.sr.lim
  clear c0 c1 c2 c3 c4 c5 h
  go_loopg [16] m (fun gk v wr => ∃ j : Nat, Aside (gk + j = m) ∧ v = .int .i64 (j : Int) ∧ Aside0 (Oc wr w.heap.size 100 64 A1 n cc (u8v (seenL d.l (d.row.take j))) ∧ Below w.heap.size w wr))
  case atStart => exact ⟨0, rfl, rfl, ⟨HO.out, HB.out⟩⟩
  case round =>
    obtain ⟨j, hk, rfl, hI⟩ := hrel
    have hjm : j ≤ m := by have := hk.out; omega
    rcases Nat.lt_or_ge j m with hlt | hge
    · have d1 : decide ((j : Int) < (m : Int)) = true := decide_eq_true (by omega)
      obtain ⟨gb, rfl, hgb0, hgb1⟩ := HD.out.sr.head (by omega)
      have hel := wrv_at d.row (fun p hp => (ok.each p hp).1) j (by omega)
      obtain ⟨p, hp⟩ : ∃ p, d.row[j]'(by omega) = p := ⟨_, rfl⟩
      rw [hp] at hel
      have hpm : p ∈ d.row := by rw [← hp]; exact List.getElem_mem _
      have hpo := ok.each p hpm
      have HR := Aside0.mk (show wr.rangeAt gb (j * 65) (wrc p) from by
        have := ((HD.out.sr.below hI.out.2).at_ j hlt).1
        rw [hel] at this
        exact this)
      have HP := Aside0.mk (And.intro hpm (And.intro hpo hp))
      clear hel hp hpm hpo
      have hz := zero59
      obtain ⟨ga, rfl, hga0, hga1⟩ := hI.out.1.head (by have := HP.out.2.1.2; omega)
      have hp1 := HP.out.2.1.2
      have HB2 := Aside0.mk (box_new wr z65 114 (wrc p) (by rw [wrc_len HP.out.2.1.1]; kernel_rfl))
      have hsz : (wrc p).toArray.size = 65 := by rw [List.size_toArray, wrc_len HP.out.2.1.1]
      have HT2 := Aside0.mk (show (wr.alloc (.cells z65 114)).there wr.heap.size 0 (wrc p).toArray.size from by rw [hsz]; exact there_new wr z65 114 65 (by kernel_rfl))
      have HI2 := Aside0.mk (show (Try.prog.info? 114).map (·.size) = some (wrc p).toArray.size from by rw [hsz]; kernel_rfl)
      have HI3 := Aside0.mk (show (Try.prog.info? 114).map (·.size) = some (wrc p).length from by rw [wrc_len HP.out.2.1.1]; kernel_rfl)
      have HL2 := Aside0.mk (show (u8v p.2).length = 64 by rw [u8v_length]; exact HP.out.2.1.1)
      clear hsz
      obtain ⟨W1, hW1⟩ : ∃ X, (wr.alloc (.cells z65 114)).setCells wr.heap.size 0 (wrc p) = X := ⟨_, rfl⟩
      rw [hW1] at HB2
      have x0 : W1.cell? ⟨wr.heap.size, 0, none⟩ = some (.int .i64 (p.1 : Int)) := by rw [cell_of_row _ _ _ _ _ _ HB2.out.1]; rfl
      have HR3 := Aside0.mk (range_row HB2.out.1 1 (u8v p.2) (by rw [HL2.out]; show List.take 64 (u8v p.2) = _; exact List.take_of_length_le (by rw [HL2.out]; exact Nat.le_refl _)))
      have HO1 := Aside0.mk (hI.out.1.below HB2.out.2)
      have hsz2 : (u8v p.2).toArray.size = 64 := by rw [List.size_toArray, HL2.out]
      have HT3 := Aside0.mk (show W1.there ga (p.1 * 64) (u8v p.2).toArray.size from by rw [hsz2]; exact (HO1.out.at_ p.1 hp1).2)
      have HI4 := Aside0.mk (show (Try.prog.info? 100).map (·.size) = some (u8v p.2).toArray.size from by rw [hsz2]; kernel_rfl)
      have HI5 := Aside0.mk (show (Try.prog.info? 100).map (·.size) = some (u8v p.2).length from by rw [HL2.out]; kernel_rfl)
      clear hsz2
      go_wp2_with (first
        | (with_reducible refine wpList_load_mid rfl 114 _ rfl gb (j * 65) rfl (wrc p) _ HR.out Try.underlying114 rfl HI3.out ?_)
        | (with_reducible refine wpList_store_mid rfl 114 _ _ rfl wr.heap.size 0 (wrc p).toArray rfl rfl HT2.out HI2.out (all_oneCell_toArray (wrc_one p)) ?_)
        | (with_reducible refine wpList_load_mid rfl 100 _ rfl wr.heap.size 1 rfl (u8v p.2) _ HR3.out Try.underlying100 rfl HI5.out ?_)
        | (with_reducible refine wpList_store_mid rfl 100 _ _ rfl ga (p.1 * 64) (u8v p.2).toArray rfl rfl HT3.out HI4.out (all_oneCell_toArray (u8v_one p.2)) ?_))
      go_roundg (m - (j + 1))
      case measure => have := hk.out; omega
      case rel =>
        obtain ⟨k1, k2⟩ := HO1.out.put p.1 hp1 (u8v p.2) HL2.out (u8v_one _)
        refine ⟨j + 1, (by show m - (j + 1) + (j + 1) = m; omega), by go_num, ⟨?_, k2.below (below_then hI.out.2 hI.out.2.size HB2.out.2) hga0 (Nat.le_refl _)⟩⟩
        rw [u8v_put _ _ _ _ HP.out.2.1.1] at k1
        rw [List.take_succ_eq_append_getElem (by omega), HP.out.2.2, seenL_snoc, Nat.mul_comm 64]
        exact k1
    · obtain rfl : j = m := by omega
      have d1 : decide ((j : Int) < (j : Int)) = false := by simp
      go_wp2_with fail
      go_ret
      have h9 := hI.out.1
      rw [List.take_of_length_le (by omega)] at h9
      exact ⟨A1, cc, rfl, h9, hI.out.2⟩
end Go.Proofs.Ythhalmjapiempaa
