/- Slices of elements of many cells that the program itself made; a disk in memory. The walks of disk's small functions. The walk of a disk's Grow. The walks of slices.Clone at sectors and at writes. The walk of bytes.Repeat at one byte, told 128, 256 or 300 times. -/
import Derived.Test.YtbjfklgmbeaaoaaZ1
import Derived.Test.YtbjfklgmbeaaoaaZ3
import Derived.Deep.MidRow
import Derived.Lib.SmallJoins
import Derived.Deep.WholeRow
import Derived.Laws.CopyOwn
import Derived.Deep.DeepCutAuto
import Derived.Laws.Externs
import Derived.Lib.MakeNoZero
set_option linter.unusedVariables false
set_option linter.unusedSimpArgs false
namespace Go.Proofs.Ytbjfklgmbeaaoaa
open Go.RowKit

/-- A slice of elements of k cells each. -/
structure Oc (w : World) (base : Nat) (T : TypeId) (k : Nat) (A : Option Addr) (n c : Nat) (xs : List Value) : Prop where
  row : w.ownsRow base T k (.slice A n c) n xs
  one : ∀ v, v ∈ xs → v.oneCell' = true
  lim : n ≤ 1000000000
theorem Oc.len {w : World} {base k n c : Nat} {T : TypeId} {A : Option Addr} {xs : List Value} (h : Oc w base T k A n c xs) : xs.length = n * k := h.row.1
theorem Oc.nil (w : World) (base : Nat) (T : TypeId) (k : Nat) : Oc w base T k none 0 0 [] := ⟨World.ownsRow_nil _ _ _ _, fun _ h => absurd h List.not_mem_nil, by omega⟩
theorem Oc.kept {w w1 : World} {base k n c : Nat} {T : TypeId} {A : Option Addr} {xs : List Value} (h : Oc w base T k A n c xs) (hb : ∀ g, A = some ⟨g, 0, none⟩ → g < w.heap.size → w1.heap[g]? = w.heap[g]?) : Oc w1 base T k A n c xs := by
  refine ⟨⟨h.row.1, ?_⟩, h.one, h.lim⟩
  rcases h.row.2 with hn | ⟨g, cap, cur, hv, hg, hh, rest⟩
  · exact .inl hn
  · refine .inr ⟨g, cap, cur, hv, hg, ?_, rest⟩
    injection hv with h1 _ _
    rw [hb g h1 (Array.getElem?_eq_some_iff.1 hh).1]
    exact hh
theorem Oc.below {w w1 : World} {base k n c : Nat} {T : TypeId} {A : Option Addr} {xs : List Value} (h : Oc w base T k A n c xs) (hb : Below w.heap.size w w1) : Oc w1 base T k A n c xs := h.kept fun g _ hg => hb.block g hg
theorem Oc.only {w w1 : World} {base k n c g : Nat} {T : TypeId} {A : Option Addr} {xs : List Value} (h : Oc w base T k A n c xs) (ho : OnlyB g w w1) (hne : ∀ j, A = some ⟨j, 0, none⟩ → j ≠ g) : Oc w1 base T k A n c xs := h.kept fun j e hj => ho.block j hj (hne j e)
theorem Oc.mono {w : World} {base base' k n c : Nat} {T : TypeId} {A : Option Addr} {xs : List Value} (h : Oc w base T k A n c xs) (hb : base' ≤ base) : Oc w base' T k A n c xs := by
  refine ⟨⟨h.row.1, ?_⟩, h.one, h.lim⟩
  rcases h.row.2 with hn | ⟨g, cap, cur, hv, hg, rest⟩
  · exact .inl hn
  · exact .inr ⟨g, cap, cur, hv, by omega, rest⟩
theorem Oc.head {w : World} {base k n c : Nat} {T : TypeId} {A : Option Addr} {xs : List Value} (h : Oc w base T k A n c xs) (h0 : 0 < n) :
    ∃ g, A = some ⟨g, 0, none⟩ ∧ base ≤ g ∧ g < w.heap.size := by
  rcases h.row.2 with ⟨hv, hn⟩ | ⟨g, cap, cur, hv, hg, hh, _⟩
  · omega
  · injection hv with h1 _ _
    exact ⟨g, h1, hg, (Array.getElem?_eq_some_iff.1 hh).1⟩
theorem Oc.addr {w : World} {base k n c : Nat} {T : TypeId} {A : Option Addr} {xs : List Value} (h : Oc w base T k A n c xs) : A = none ∨ ∃ g, A = some ⟨g, 0, none⟩ ∧ base ≤ g ∧ g < w.heap.size := by
  rcases h.row.2 with ⟨hv, hn⟩ | ⟨g, cap, cur, hv, hg, hh, _⟩
  · injection hv with h1 _ _
    exact .inl h1
  · injection hv with h1 _ _
    exact .inr ⟨g, h1, hg, (Array.getElem?_eq_some_iff.1 hh).1⟩
theorem Oc.cap {w : World} {base k n c : Nat} {T : TypeId} {A : Option Addr} {xs : List Value} (h : Oc w base T k A n c xs) : n ≤ c ∧ c ≤ 9223372036854775807 := by
  rcases h.row.2 with ⟨hv, hn⟩ | ⟨g, cap, cur, hv, hg, hh, hc, hm, _⟩
  · injection hv with _ h2 h3
    omega
  · injection hv with _ _ h3
    simp only [maxLen] at hm
    omega
/-- One element's cells, and that they may be written. -/
theorem Oc.at_ {w : World} {base k n c g : Nat} {T : TypeId} {xs : List Value} (h : Oc w base T k (some ⟨g, 0, none⟩) n c xs) (i : Nat) (hi : i < n) :
    w.rangeAt g (i * k) ((xs.drop (i * k)).take k) ∧ w.there g (i * k) k := by
  rcases h.row.2 with ⟨hv, hn⟩ | ⟨g', cap, cur, hv, hg, hh, hc, hm, hs, ht⟩
  · omega
  · injection hv with h1 h2 h3
    injection h1 with h1
    injection h1 with h1
    subst h1
    have hik : (i + 1) * k ≤ n * k := Nat.mul_le_mul_right k hi
    have hnk : n * k ≤ cap * k := Nat.mul_le_mul_right k hc
    rw [Nat.add_mul, Nat.one_mul] at hik
    constructor
    · intro j v hv
      have hj : j < k := by
        have := (List.getElem?_eq_some_iff.1 hv).1
        rw [List.length_take] at this
        omega
      rw [cell_of_row _ _ _ _ _ _ hh]
      rw [List.getElem?_take_of_lt hj, List.getElem?_drop, ← ht, List.getElem?_take_of_lt (by omega)] at hv
      rw [← Array.getElem?_toList]
      exact hv
    · intro j hj
      refine ⟨?_, by simp [World.frozen?, hh]⟩
      rw [cell_of_row _ _ _ _ _ _ hh, Array.getElem?_eq_getElem (by omega)]
      rfl
theorem setCells_row (w : World) (g : Nat) (T : TypeId) : ∀ (vs : List Value) (o : Nat) (w : World) (cur : Array Value), w.heap[g]? = some (.cells cur T (0, 0)) → o + vs.length ≤ cur.size →
    (w.setCells g o vs).heap[g]? = some (.cells (cur.toList.take o ++ (vs ++ cur.toList.drop (o + vs.length))).toArray T (0, 0)) ∧ OnlyB g w (w.setCells g o vs)
  | [], o, w, cur, h, ho => by
    rw [World.setCells]
    refine ⟨?_, OnlyB.refl g w⟩
    rw [h]
    simp
  | v :: r, o, w, cur, h, ho => by
    rw [World.setCells]
    have h1 : (w.setCell ⟨g, o, none⟩ v).heap[g]? = some (.cells (cur.setIfInBounds o v) T (0, 0)) := heap_setCell_same w g o _ _ v h
    simp only [List.length_cons] at ho
    obtain ⟨h2, h3⟩ := setCells_row w g T r (o + 1) _ _ h1 (by rw [Array.size_setIfInBounds]; omega)
    refine ⟨?_, ?_⟩
    · rw [h2]
      congr 3
      apply List.ext_getElem?
      intro i
      have hl1 : (List.take (o + 1) (cur.setIfInBounds o v).toList).length = o + 1 := by simp; omega
      have hl2 : (List.take o cur.toList).length = o := by simp; omega
      simp only [Array.toList_setIfInBounds, List.length_cons]
      rw [Array.toList_setIfInBounds] at hl1
      rcases Nat.lt_trichotomy i o with hi | hi | hi
      · rw [List.getElem?_append_left (by omega), List.getElem?_append_left (by omega), List.getElem?_take_of_lt (by omega), List.getElem?_take_of_lt hi, List.getElem?_set_ne (by omega)]
      · subst hi
        rw [List.getElem?_append_left (by omega), List.getElem?_take_of_lt (by omega), List.getElem?_append_right (by omega), hl2, Nat.sub_self, List.getElem?_set_self (by simp; omega)]
        rfl
      · have L1 : ∀ R1 : List Value, (List.take (o + 1) (cur.toList.set o v) ++ R1)[i]? = R1[i - (o + 1)]? := fun R1 => by rw [List.getElem?_append_right (by omega), hl1]
        have L2 : ∀ R2 : List Value, (List.take o cur.toList ++ (v :: r ++ R2))[i]? = (r ++ R2)[i - (o + 1)]? := fun R2 => by rw [List.getElem?_append_right (by omega), hl2, show i - o = (i - (o + 1)) + 1 by omega, List.cons_append, List.getElem?_cons_succ]
        rw [L1, L2]
        rcases Nat.lt_or_ge (i - (o + 1)) r.length with hr | hr
        · rw [List.getElem?_append_left hr, List.getElem?_append_left hr]
        · rw [List.getElem?_append_right hr, List.getElem?_append_right hr, List.getElem?_drop, List.getElem?_drop, List.getElem?_set_ne (by omega)]
          congr 1
          omega
    · exact ⟨h3.os, h3.tape, h3.output, by have := h3.size; simpa using this, fun i hi hne => (h3.block i (by simpa using hi) hne).trans (((OnlyB.refl g w).set o v).block i hi hne)⟩
/-- One element is another. -/
theorem Oc.put {w : World} {base k n c g : Nat} {T : TypeId} {xs : List Value} (h : Oc w base T k (some ⟨g, 0, none⟩) n c xs) (i : Nat) (hi : i < n) (vs : List Value) (hv : vs.length = k) (h1 : ∀ v, v ∈ vs → v.oneCell' = true) :
    Oc (w.setCells g (i * k) vs) base T k (some ⟨g, 0, none⟩) n c (xs.take (i * k) ++ (vs ++ xs.drop (i * k + k))) ∧ OnlyB g w (w.setCells g (i * k) vs) := by
  have hl := h.len
  have hik : (i + 1) * k ≤ n * k := Nat.mul_le_mul_right k hi
  rw [Nat.add_mul, Nat.one_mul] at hik
  rcases h.row.2 with ⟨hv', hn⟩ | ⟨g', cap, cur, hv', hg, hh, hc, hm, hs, ht⟩
  · omega
  · injection hv' with e1 e2 e3
    injection e1 with e1
    injection e1 with e1
    subst e1 e3
    have hnk : n * k ≤ c * k := Nat.mul_le_mul_right k hc
    obtain ⟨k1, k2⟩ := setCells_row w g T vs (i * k) w cur hh (by omega)
    refine ⟨⟨⟨by simp only [List.length_append, List.length_take, List.length_drop]; omega, .inr ⟨g, c, _, rfl, hg, k1, hc, hm, ?_, ?_⟩⟩, fun v hv => ?_, h.lim⟩, k2⟩
    · simp only [List.size_toArray, List.length_append, List.length_take, List.length_drop, Array.length_toList]
      omega
    · have e4 : (List.take (i * k) cur.toList).length = i * k := by rw [List.length_take, Array.length_toList]; omega
      rw [List.take_append, e4, List.take_of_length_le (by omega), List.take_append, List.take_of_length_le (l := vs) (by omega), hv, ← ht, List.take_take, Nat.min_eq_left (by omega), List.drop_take]
      congr 3
      omega
    · rcases List.mem_append.1 hv with hv | hv
      · exact h.one v (List.mem_of_mem_take hv)
      · rcases List.mem_append.1 hv with hv | hv
        · exact h1 v hv
        · exact h.one v (List.mem_of_mem_drop hv)
/-- A disk: its limit, its bytes, what was written since, and what is armed. -/
structure DV where
  limit : Int
  l : List UInt8
  row : List (Nat × List UInt8)
  ops : Int
  fuse : Int
  down : Bool
/-- The cells of what was written. -/
def wrv (row : List (Nat × List UInt8)) : List Value := row.flatMap fun p => .int .i64 (p.1 : Int) :: u8v p.2
structure DV.ok (d : DV) (n : Nat) : Prop where
  len : d.l.length = n * 64
  each : ∀ p, p ∈ d.row → p.2.length = 64 ∧ p.1 < n
  lim0 : 0 ≤ d.limit
  lim : d.limit ≤ 65536
  fuse : -1 ≤ d.fuse
theorem row6_cells {W : World} {g : Nat} {T : TypeId} {a b c d e f : Value} (k : W.heap[g]? = some (.cells #[a, b, c, d, e, f] T)) :
    W.cell? ⟨g, 0, none⟩ = some a ∧ W.cell? ⟨g, 1, none⟩ = some b ∧ W.cell? ⟨g, 2, none⟩ = some c ∧ W.cell? ⟨g, 3, none⟩ = some d ∧ W.cell? ⟨g, 4, none⟩ = some e ∧ W.cell? ⟨g, 5, none⟩ = some f :=
  ⟨by rw [cell_of_row _ _ _ _ _ _ k]; rfl, by rw [cell_of_row _ _ _ _ _ _ k]; rfl, by rw [cell_of_row _ _ _ _ _ _ k]; rfl, by rw [cell_of_row _ _ _ _ _ _ k]; rfl, by rw [cell_of_row _ _ _ _ _ _ k]; rfl, by rw [cell_of_row _ _ _ _ _ _ k]; rfl⟩
/-- What grew behind a slice: all but its own block is as it was. -/
structure Grw (A : Option Addr) (W w1 : World) : Prop where
  os : w1.os = W.os
  tape : w1.tape = W.tape
  output : w1.output = W.output
  size : W.heap.size ≤ w1.heap.size
  block : ∀ k, k < W.heap.size → A ≠ some ⟨k, 0, none⟩ → w1.heap[k]? = W.heap[k]?
/-- append of one element of k cells. -/
theorem wpl_oc {P : Program} {ops : Array Oper} {rest : List Oper} {o : Oper} {a : Act} {Q : Exit → Act → World → Prop} {W : World} (base : Nat) (hgd : o.guard = none) (s x : Operand) (t T : TypeId) (z : Value) (k bytes : Nat)
    (ho : o.op = .call { callee := .builtin .append, args := #[s, x], argTypes := #[t, t] })
    (ht : P.underlying t = some (.slice T)) (hinfo : (P.info? T).map (fun i => (i.zero, i.size, i.bytes)) = some (some z, k, bytes)) (hzs : z.cells.size = k) (hk : 0 < k) (hb0 : 0 < bytes) (hb1 : bytes ≤ 1000)
    (A : Option Addr) (n c N : Nat) (xs news : List Value) (hs : a.eval s = .slice A n c) (hx : a.eval x = .slice (some ⟨N, 0, none⟩) 1 1)
    (HO : Oc W base T k A n c xs) (hnl : news.length = k) (hnew : W.rangeAt N 0 news) (h1 : ∀ u, u ∈ news → u.oneCell' = true) (hbase : base ≤ W.heap.size) (hn : n + 1 ≤ 1000000000)
    (h : ∀ A2 c2 w1, Aside0 (Oc w1 base T k A2 (n + 1) c2 (xs ++ news)) → Aside0 (Grw A W w1) → Aside0 (A2 = A ∨ A2 = some ⟨W.heap.size, 0, none⟩) → wpList P ops Q rest (a.put o.dst (.slice A2 (n + 1) c2)) w1) :
    wpList P ops Q (o :: rest) a W := by
  refine wpl_append (w0 := W) base hgd s x t T z k bytes ho ht hinfo hzs hk hb0 (.slice A n c) n xs (some ⟨N, 0, none⟩) 1 1 news hs hx HO.row (by rw [hnl, Nat.one_mul]) (fun _ => ⟨_, rfl, fun j u hu => ?_⟩) (fun u hu => h1 u hu) (Below.refl _ _) hbase ?_ ?_
  · rw [add_plain]
    have := hnew j u hu
    rwa [Nat.zero_add] at this
  · have := Nat.mul_le_mul hn hb1
    omega
  · intro v1 w1 hown hB hg hat
    obtain ⟨A2, c2, rfl⟩ := own_form hown
    refine h A2 c2 w1 ⟨⟨hown, fun u hu => ?_, hn⟩⟩ ⟨⟨hg.os, hg.tape, hg.output, hg.size, fun j hj hne => hg.block j hj ?_⟩⟩ ⟨?_⟩
    · rcases List.mem_append.1 hu with hu | hu
      · exact HO.one u hu
      · exact h1 u hu
    · rcases HO.addr with rfl | ⟨q, rfl, _⟩
      · intro e
        cases e
      · intro e
        simp only [Value.ownBlock, Option.some.injEq] at e
        exact hne (by rw [e])
    · have hO2 : Oc w1 base T k A2 (n + 1) c2 (xs ++ news) := ⟨hown, fun u hu => by
        rcases List.mem_append.1 hu with hu | hu
        · exact HO.one u hu
        · exact h1 u hu, hn⟩
      obtain ⟨q2, rfl, _⟩ := hO2.head (by omega)
      rcases hat with e | e
      · rcases HO.addr with rfl | ⟨q, rfl, _⟩
        · cases e
        · simp only [Value.ownBlock, Option.some.injEq] at e
          exact .inl (by rw [e])
      · simp only [Value.ownBlock, Option.some.injEq] at e
        exact .inr (by rw [e])
theorem Oc.grw {w w1 : World} {base k n c : Nat} {T : TypeId} {A B : Option Addr} {xs : List Value} (h : Oc w base T k A n c xs) (hg : Grw B w w1) (hne : ∀ i j, A = some ⟨i, 0, none⟩ → B = some ⟨j, 0, none⟩ → i ≠ j) : Oc w1 base T k A n c xs :=
  h.kept fun q e hq => hg.block q hq (fun e2 => hne q q e e2 rfl)
theorem Grw.below {A : Option Addr} {B : Nat} {w0 w w1 : World} {o : Obj} (hg : Grw A (w.alloc o) w1) (hb : Below B w0 w) (h : ∀ k, A = some ⟨k, 0, none⟩ → B ≤ k) (hB : B ≤ w.heap.size) : Below B w0 w1 :=
  ⟨hg.os.trans hb.os, hg.tape.trans hb.tape, hg.output.trans hb.output, Nat.le_trans hb.size (by have := hg.size; simp at this; omega), fun k hk => (hg.block k (by simp; omega) (fun e => by have := h k e; omega)).trans ((Below.heap_alloc _ _ _ (by omega)).trans (hb.block k hk))⟩
theorem below_setc {B g j : Nat} {w W : World} (v : Value) (h : Below B w W) (hg : B ≤ g) : Below B w (W.setCell ⟨g, j, none⟩ v) := h.setCell (p := ⟨g, j, none⟩) hg v
theorem Oc.lo {w : World} {base k n c : Nat} {T : TypeId} {A : Option Addr} {xs : List Value} (h : Oc w base T k A n c xs) (j : Nat) (e : A = some ⟨j, 0, none⟩) : base ≤ j := by
  rcases h.addr with q | ⟨i, q, q2, _⟩
  · rw [q] at e
    cases e
  · rw [q] at e
    injection e with e
    injection e with e
    omega
/-- All but a disk's own blocks is as it was. -/
structure Fr (g : Nat) (A B : Option Addr) (w w1 : World) : Prop where
  os : w1.os = w.os
  tape : w1.tape = w.tape
  output : w1.output = w.output
  size : w.heap.size ≤ w1.heap.size
  block : ∀ i, i < w.heap.size → i ≠ g → A ≠ some ⟨i, 0, none⟩ → B ≠ some ⟨i, 0, none⟩ → w1.heap[i]? = w.heap[i]?
/-- A slice's block is the old one's, or is new. -/
def New (w : World) (A A1 : Option Addr) : Prop := A1 = A ∨ ∀ k, A1 = some ⟨k, 0, none⟩ → w.heap.size ≤ k
theorem New.ne {w : World} {A A1 : Option Addr} (h : New w A A1) (i : Nat) (hi : i < w.heap.size) (hA : A ≠ some ⟨i, 0, none⟩) : A1 ≠ some ⟨i, 0, none⟩ := by
  rcases h with rfl | h
  · exact hA
  · intro e
    have := h i e
    omega
theorem New.trans {w w1 : World} {A A1 A2 : Option Addr} (h : New w A A1) (k : New w1 A1 A2) (hs : w.heap.size ≤ w1.heap.size) : New w A A2 := by
  rcases k with rfl | k
  · exact h
  · exact .inr fun i e => by have := k i e; omega
theorem Fr.refl (g : Nat) (A B : Option Addr) (w : World) : Fr g A B w w := ⟨rfl, rfl, rfl, Nat.le_refl _, fun _ _ _ _ _ => rfl⟩
theorem Fr.trans {g : Nat} {A B A1 B1 : Option Addr} {w w1 w2 : World} (h : Fr g A B w w1) (k : Fr g A1 B1 w1 w2) (ha : New w A A1) (hb : New w B B1) : Fr g A B w w2 :=
  ⟨k.os.trans h.os, k.tape.trans h.tape, k.output.trans h.output, Nat.le_trans h.size k.size, fun i hi h1 h2 h3 => (k.block i (by have := h.size; omega) h1 (ha.ne i hi h2) (hb.ne i hi h3)).trans (h.block i hi h1 h2 h3)⟩
theorem Fr.of_below {g : Nat} {A B : Option Addr} {w w1 : World} (h : Below w.heap.size w w1) : Fr g A B w w1 := ⟨h.os, h.tape, h.output, h.size, fun i hi _ _ _ => h.block i hi⟩
theorem Fr.of_only {g : Nat} {A B : Option Addr} {w w1 : World} (h : OnlyB g w w1) : Fr g A B w w1 := ⟨h.os, h.tape, h.output, h.size, fun i hi h1 _ _ => h.block i hi h1⟩
theorem Fr.of_grw {g : Nat} {A B : Option Addr} {w w1 : World} (h : Grw A w w1) : Fr g A B w w1 := ⟨h.os, h.tape, h.output, h.size, fun i hi _ h2 _ => h.block i hi h2⟩
theorem Fr.of_grw' {g : Nat} {A B : Option Addr} {w w1 : World} (h : Grw B w w1) : Fr g A B w w1 := ⟨h.os, h.tape, h.output, h.size, fun i hi _ _ h3 => h.block i hi h3⟩
theorem Fr.of_slice {g ga : Nat} {B : Option Addr} {w w1 : World} (h : OnlyB ga w w1) : Fr g (some ⟨ga, 0, none⟩) B w w1 := ⟨h.os, h.tape, h.output, h.size, fun i hi _ h2 _ => h.block i hi (fun e => h2 (by rw [e]))⟩
theorem Fr.below {g b0 : Nat} {A B : Option Addr} {w0 w w1 : World} (h : Fr g A B w w1) (hb : Below b0 w0 w) (hg : b0 ≤ g) (hA : ∀ k, A = some ⟨k, 0, none⟩ → b0 ≤ k) (hB : ∀ k, B = some ⟨k, 0, none⟩ → b0 ≤ k) (hs : b0 ≤ w.heap.size) : Below b0 w0 w1 :=
  ⟨h.os.trans hb.os, h.tape.trans hb.tape, h.output.trans hb.output, Nat.le_trans hb.size h.size, fun i hi => (h.block i (by omega) (by omega) (fun e => by have := hA i e; omega) (fun e => by have := hB i e; omega)).trans (hb.block i hi)⟩
end Go.Proofs.Ytbjfklgmbeaaoaa

set_option linter.unusedVariables false
set_option linter.unusedSimpArgs false
namespace Go.Proofs.Ytbjfklgmbeaaoaa
open Go.RowKit

def limI (limit : Int) : Int := if limit < 0 then 0 else if 65536 < limit then 65536 else limit
/-- An op more. -/
def opD (d : DV) : DV := { d with ops := d.ops + 1, down := d.fuse == 0, fuse := if d.fuse - 1 < -1 then -1 else d.fuse - 1 }
def hasB (n : Nat) (at_ many : Int) : Bool := decide (0 ≤ at_ ∧ 0 ≤ many ∧ at_ ≤ (n : Int) ∧ many ≤ (n : Int) - at_)
end Go.Proofs.Ytbjfklgmbeaaoaa

set_option linter.unusedVariables false
set_option linter.unusedSimpArgs false
namespace Go.Proofs.Ytbjfklgmbeaaoaa
open Go.RowKit

def z64 : Array Value := (u8v (List.replicate 64 0)).toArray
theorem lit_range (w : World) (C : Array Value) (T : TypeId) (vs : List Value) (hC : C = vs.toArray) : (w.alloc (.cells C T)).rangeAt w.heap.size 0 vs := by
  subst hC
  intro j v hv
  rw [cell_of_row _ _ _ _ _ _ (heap_alloc_new w _), Nat.zero_add]
  simpa using hv
end Go.Proofs.Ytbjfklgmbeaaoaa

set_option linter.unusedVariables false
set_option linter.unusedSimpArgs false
namespace Go.Proofs.Ytbjfklgmbeaaoaa
open Go.RowKit

/-- A slice of elements of k cells, read. -/
structure Rc (w : World) (k : Nat) (A : Option Addr) (n c : Nat) (xs : List Value) : Prop where
  len : xs.length = n * k
  le : n ≤ c
  cap : c ≤ 9223372036854775807
  lim : n ≤ 1000000000
  one : ∀ v, v ∈ xs → v.oneCell' = true
  cells : 0 < n → ∃ ad, A = some ad ∧ ∀ j u, xs[j]? = some u → w.cell? (ad.add j) = some u
theorem Oc.rc {w : World} {base k n c : Nat} {T : TypeId} {A : Option Addr} {xs : List Value} (h : Oc w base T k A n c xs) : Rc w k A n c xs := by
  refine ⟨h.len, h.cap.1, h.cap.2, h.lim, h.one, fun h0 => ?_⟩
  obtain ⟨g, rfl, _, _⟩ := h.head h0
  exact ⟨_, rfl, fun j u hu => h.row.cells (g := g) rfl j u hu⟩
theorem Rc.below {w w1 : World} {k n c : Nat} {A : Option Addr} {xs : List Value} (h : Rc w k A n c xs) (hB : Below w.heap.size w w1) : Rc w1 k A n c xs :=
  ⟨h.len, h.le, h.cap, h.lim, h.one, fun h0 => by
    obtain ⟨ad, e, hx⟩ := h.cells h0
    exact ⟨ad, e, fun j u hu => cell_below hB (hx j u hu)⟩⟩
/-- append of all elements of another one. -/
theorem wpl_rc {P : Program} {ops : Array Oper} {rest : List Oper} {o : Oper} {a : Act} {Q : Exit → Act → World → Prop} {W : World} (base : Nat) (hgd : o.guard = none) (s x : Operand) (t T : TypeId) (z : Value) (k bytes : Nat)
    (ho : o.op = .call { callee := .builtin .append, args := #[s, x], argTypes := #[t, t] })
    (ht : P.underlying t = some (.slice T)) (hinfo : (P.info? T).map (fun i => (i.zero, i.size, i.bytes)) = some (some z, k, bytes)) (hzs : z.cells.size = k) (hk : 0 < k) (hb0 : 0 < bytes) (hb1 : bytes ≤ 1000)
    (A : Option Addr) (c : Nat) (B : Option Addr) (m e : Nat) (ys : List Value) (hs : a.eval s = .slice A 0 c) (hx : a.eval x = .slice B m e)
    (HO : Oc W base T k A 0 c []) (HY : Rc W k B m e ys) (hbase : base ≤ W.heap.size) {w0 : World} (HB : Below base w0 W)
    (h : ∀ A2 c2 w1, Aside0 (Oc w1 base T k A2 m c2 ys) → Aside0 (Below base w0 w1) → wpList P ops Q rest (a.put o.dst (.slice A2 m c2)) w1) :
    wpList P ops Q (o :: rest) a W := by
  refine wpl_append (w0 := w0) base hgd s x t T z k bytes ho ht hinfo hzs hk hb0 (.slice A 0 c) 0 [] B m e ys hs hx HO.row HY.len HY.cells (fun u hu => HY.one u hu) HB hbase ?_ ?_
  · rw [Nat.zero_add]
    have := Nat.mul_le_mul HY.lim hb1
    omega
  · intro v1 w1 hown hB hg hat
    rw [Nat.zero_add, List.nil_append] at hown
    obtain ⟨A2, c2, rfl⟩ := own_form hown
    exact h A2 c2 w1 ⟨⟨hown, HY.one, HY.lim⟩⟩ ⟨hB⟩
theorem Oc.lit0 (w : World) (base : Nat) (T : TypeId) (k : Nat) (h : base ≤ w.heap.size) : Oc (w.alloc (.cells #[] T)) base T k (some ⟨w.heap.size, 0, none⟩) 0 0 [] :=
  ⟨by simpa using World.ownsRow_lit (base := base) (e := T) (size := k) w #[] 0 h (by simp [maxLen]) (by simp), fun _ h => absurd h List.not_mem_nil, by omega⟩
def z65 : Array Value := #[Value.int .i64 0] ++ z64
theorem there_new (w : World) (C : Array Value) (T : TypeId) (k : Nat) (hk : C.size = k) : (w.alloc (.cells C T)).there w.heap.size 0 k := by
  intro j hj
  have hh : (w.alloc (.cells C T)).heap[w.heap.size]? = some (.cells C T (0, 0)) := heap_alloc_new w _
  refine ⟨?_, Go.Joins.unfrozen_of_block hh (0 + j)⟩
  rw [cell_of_row _ _ _ _ _ _ (heap_alloc_new w _), Nat.zero_add, Array.getElem?_eq_getElem (by omega)]
  rfl
theorem box_new (w : World) (C : Array Value) (T : TypeId) (vs : List Value) (hk : C.size = vs.length) : ((w.alloc (.cells C T)).setCells w.heap.size 0 vs).heap[w.heap.size]? = some (.cells vs.toArray T) ∧ Below w.heap.size w ((w.alloc (.cells C T)).setCells w.heap.size 0 vs) := by
  obtain ⟨h1, h2⟩ := setCells_row w w.heap.size T vs 0 (w.alloc (.cells C T)) C (heap_alloc_new w _) (by omega)
  refine ⟨?_, h2.below ((Below.refl _ w).alloc (Nat.le_refl _) _) (Nat.le_refl _) (Nat.le_refl _)⟩
  rw [h1, List.take_zero, List.nil_append, Nat.zero_add, List.drop_of_length_le (by rw [Array.length_toList]; omega), List.append_nil]
theorem range_row {w : World} {g : Nat} {T : TypeId} {vs : List Value} (h : w.heap[g]? = some (.cells vs.toArray T)) (o : Nat) (us : List Value) (hu : (vs.drop o).take us.length = us) : w.rangeAt g o us := by
  intro j v hv
  have hj := (List.getElem?_eq_some_iff.1 hv).1
  rw [cell_of_row _ _ _ _ _ _ h]
  rw [← hu, List.getElem?_take_of_lt hj, List.getElem?_drop] at hv
  simpa using hv
end Go.Proofs.Ytbjfklgmbeaaoaa

set_option linter.unusedVariables false
set_option linter.unusedSimpArgs false
namespace Go.Proofs.Ytbjfklgmbeaaoaa
open Go.RowKit

set_option maxHeartbeats 1000000 in
theorem mul64_128 (w : World) : Calls Try.prog 115 #[.int .u64 1, .int .u64 128] w fun e w' => e = .returned (.tuple #[.int .u64 0, .int .u64 128]) ∧ w = w' := by
  go_enter Try.func115, Try.ntmps115
  go_wp2
  go_ret2
  exact ⟨rfl, rfl⟩
set_option maxHeartbeats 1000000 in
theorem mul_128 (w : World) : Calls Try.prog 92 #[.int .u64 1, .int .u64 128] w fun e w' => e = .returned (.tuple #[.int .u64 0, .int .u64 128]) ∧ w = w' := by
  go_enter Try.func92, Try.ntmps92
  go_wp2_with (go_at_call 115; refine (mul64_128 _).mono ?_; rintro e w1 ⟨rfl, rfl⟩)
  go_ret2
  exact ⟨rfl, rfl⟩
set_option maxHeartbeats 1000000 in
theorem mul64_256 (w : World) : Calls Try.prog 115 #[.int .u64 1, .int .u64 256] w fun e w' => e = .returned (.tuple #[.int .u64 0, .int .u64 256]) ∧ w = w' := by
  go_enter Try.func115, Try.ntmps115
  go_wp2
  go_ret2
  exact ⟨rfl, rfl⟩
set_option maxHeartbeats 1000000 in
theorem mul_256 (w : World) : Calls Try.prog 92 #[.int .u64 1, .int .u64 256] w fun e w' => e = .returned (.tuple #[.int .u64 0, .int .u64 256]) ∧ w = w' := by
  go_enter Try.func92, Try.ntmps92
  go_wp2_with (go_at_call 115; refine (mul64_256 _).mono ?_; rintro e w1 ⟨rfl, rfl⟩)
  go_ret2
  exact ⟨rfl, rfl⟩
set_option maxHeartbeats 1000000 in
theorem mul64_300 (w : World) : Calls Try.prog 115 #[.int .u64 1, .int .u64 300] w fun e w' => e = .returned (.tuple #[.int .u64 0, .int .u64 300]) ∧ w = w' := by
  go_enter Try.func115, Try.ntmps115
  go_wp2
  go_ret2
  exact ⟨rfl, rfl⟩
set_option maxHeartbeats 1000000 in
theorem mul_300 (w : World) : Calls Try.prog 92 #[.int .u64 1, .int .u64 300] w fun e w' => e = .returned (.tuple #[.int .u64 0, .int .u64 300]) ∧ w = w' := by
  go_enter Try.func92, Try.ntmps92
  go_wp2_with (go_at_call 115; refine (mul64_300 _).mono ?_; rintro e w1 ⟨rfl, rfl⟩)
  go_ret2
  exact ⟨rfl, rfl⟩
/-- A row whose first j bytes are all the same. -/
structure Same (w : World) (g K j : Nat) (v : UInt8) : Prop where
  row : ∃ cur : Array Value, w.heap[g]? = some (.cells cur 5 (0, 0)) ∧ K ≤ cur.size ∧ ∀ i, i < j → cur[i]? = some (.int .u8 (v.toNat : Int))
theorem same_copy {w : World} {g K j : Nat} {v : UInt8} {cur : Array Value} (hh : w.heap[g]? = some (.cells cur 5 (0, 0))) (hK : K ≤ cur.size) (hc : ∀ i, i < j → cur[i]? = some (.int .u8 (v.toNat : Int))) (m : Nat) (hm : j + m ≤ K) :
    Same (w.setRow g (cur.toList.take j ++ (List.replicate m (Value.int .u8 (v.toNat : Int)) ++ cur.toList.drop (j + (List.replicate m (Value.int .u8 (v.toNat : Int))).length))).toArray) g K (j + m) v := by
  refine ⟨_, setRow_heap _ _ _ _ _ _ hh, ?_, fun i hi => ?_⟩
  · simp
    omega
  · have l1 : (cur.toList.take j).length = j := by simp; omega
    rw [List.getElem?_toArray]
    rcases Nat.lt_or_ge i j with q | q
    · rw [List.getElem?_append_left (by omega), List.getElem?_take_of_lt q]
      have := hc i q
      rwa [← Array.getElem?_toList] at this
    · rw [List.getElem?_append_right (by omega), l1, List.getElem?_append_left (by simp; omega), List.getElem?_replicate_of_lt (by omega)]
set_option maxHeartbeats 4000000 in
set_option maxRecDepth 100000 in
theorem repeat_one (K : Nat) (A : Option Addr) (c : Nat) (v : UInt8) (w : World) (hb : Bs w A 1 c [v]) (h1 : 1 ≤ K) (h2 : K ≤ 8192)
    (hmul : ∀ w, Calls Try.prog 92 #[.int .u64 1, .int .u64 (K : Int)] w fun e w' => e = .returned (.tuple #[.int .u64 0, .int .u64 (K : Int)]) ∧ w = w') :
    Calls Try.prog 42 #[.slice A 1 c, .int .i64 (K : Int)] w fun e' w' => ∃ g, e' = .returned (.slice (some ⟨g, 0, none⟩) K K) ∧ w.heap.size ≤ g ∧ g < w'.heap.size ∧ Bs w' (some ⟨g, 0, none⟩) K K (List.replicate K v) ∧ Below w.heap.size w w' := by
  obtain ⟨ad, rfl, hx⟩ := hb.cells (by omega)
  have f0 : ((K : Int) == 0) = false := beq_eq_false_iff_ne.2 (by omega)
  have f1 : decide ((K : Int) < 0) = false := decide_eq_false (by omega)
  have f2 : decide ((8192 : Int) < (K : Int)) = false := decide_eq_false (by omega)
  have f2' : decide (8192 < K) = false := decide_eq_false (by omega)
  have f3 : decide ((9223372036854775807 : Int) < (K : Int)) = false := decide_eq_false (by omega)
  have f3' : decide (9223372036854775807 < K) = false := decide_eq_false (by omega)
  have i1 : IntKind.u64.wrap (K : Int) = (K : Int) := by
    simp [IntKind.wrap, IntKind.bits, IntKind.signed]
    omega
  have i2 : IntKind.i64.wrap (K : Int) = (K : Int) := IntWalk.i64_in _ (by omega)
  obtain ⟨cs, hrunM, hle, hmax⟩ := Lib.run_makeNoZero (P := Try.prog) w #[3] 27 5 Try.underlying27 K (by omega)
  have hcall : (callFunc 56 #[.int .i64 (K : Int)]).run Try.prog w = .ok (.value (.slice (some ⟨w.heap.size, 0, none⟩) K cs.size)) ((w.alloc (.cells cs 5)).drewN 2) := by
    rw [run_callFunc_extern Try.func56 (by kernel_rfl) (by kernel_rfl) (by kernel_rfl) (e := Extern.BytealgMakeNoZero.makeNoZero #[3] #[27]) (by kernel_rfl), hrunM]
    rfl
  have hz1 : (0 : Int) ≤ (K : Int) := by omega
  have hz2 : (K : Int) ≤ (cs.size : Int) := by omega
  obtain ⟨W0, hW0⟩ : ∃ X, (w.alloc (.cells cs 5)).drewN 2 = X := ⟨_, rfl⟩
  have hbel : Below w.heap.size w W0 := by rw [← hW0]; exact below_drawn ((Below.refl _ w).alloc (Nat.le_refl _) _) 2
  have hrow : W0.heap[w.heap.size]? = some (.cells cs 5 (0, 0)) := by rw [← hW0]; exact heap_alloc_new w _
  rw [hW0] at hcall
  have HX := Aside0.mk (show W0.cell? ad = some (.int .u8 (v.toNat : Int)) from by
    have := cell_below hbel (hx 0 (by omega))
    simpa [b8, Addr.add] using this)
  have HR := Aside0.mk hrow
  have HB := Aside0.mk hbel
  have HL := Aside0.mk hle
  have HM := Aside0.mk (fun w => hmul w)
  clear hrunM hx hb hrow hbel hmul hW0 hle hmax
  have C1 := Aside0.mk (show (List.replicate 1 (Value.int .u8 (v.toNat : Int))).length = Nat.min 1 K from (Nat.min_eq_left h1).symm)
  have C2 := Aside0.mk (show ∀ (j : Nat) (u : Value), (List.replicate 1 (Value.int .u8 (v.toNat : Int)))[j]? = some u → W0.cell? (ad.add j) = some u from fun j u hu => by
    cases j with
    | zero => (injection hu with hu; rw [← hu]; simpa [Addr.add] using HX.out)
    | succ j => simp at hu)
  have C3 := Aside0.mk (show 0 + (List.replicate 1 (Value.int .u8 (v.toNat : Int))).length ≤ cs.size by rw [List.length_replicate]; have := HL.out; omega)
  have C4 := Aside0.mk (show ∀ u ∈ List.replicate 1 (Value.int .u8 (v.toNat : Int)), u.oneCell' = true from fun u hu => by rw [List.eq_of_mem_replicate hu]; rfl)
  have C5 := Aside0.mk (show (Try.prog.info? 5).map (·.size) = some 1 by kernel_rfl)
  have C6 := Aside0.mk (same_copy (j := 0) (v := v) HR.out HL.out (fun i hi => absurd hi (by omega)) 1 (by omega))
  go_enter Try.func42, Try.ntmps42
  go_wp2_with (first
    | (go_at_call 92; refine (HM.out _).mono ?_; rintro e w1 ⟨rfl, rfl⟩)
    | (with_reducible refine wpList_copy_own rfl _ _ _ _ rfl 5 Try.underlying27 C5.out w.heap.size 0 K K ad 1 c rfl rfl cs 5 HR.out (List.replicate 1 (Value.int .u8 (v.toNat : Int))) C1.out C2.out C3.out C4.out ?_))
  have HS0 := Aside0.mk (And.intro C6.out (below_setRow HB.out (Nat.le_refl _) (cs.toList.take 0 ++ (List.replicate 1 (Value.int .u8 (v.toNat : Int)) ++ cs.toList.drop (0 + (List.replicate 1 (Value.int .u8 (v.toNat : Int))).length))).toArray))
  clear C1 C2 C3 C4 C6 hcall
  go_loopg [10] (K - 1) (fun gk v10 wr => ∃ j : Nat, Aside (gk + j = K) ∧ v10 = .int .i64 (j : Int) ∧ 1 ≤ j ∧ Aside0 (Same wr w.heap.size K j v ∧ Below w.heap.size w wr))
  case atStart => exact ⟨1, (by show K - 1 + 1 = K; omega), rfl, Nat.le_refl _, ⟨by simpa using HS0.out.1, by simpa using HS0.out.2⟩⟩
  case round =>
    obtain ⟨j, hk, rfl, hj1, hI⟩ := hrel
    have hjK : j ≤ K := by have := hk.out; omega
    rcases Nat.lt_or_ge j K with hlt | hge
    · have d1 : decide ((j : Int) < (K : Int)) = true := decide_eq_true (by omega)
      have d1' : decide (j < K) = true := decide_eq_true hlt
      have d2 : decide ((K : Int) < (j : Int)) = false := decide_eq_false (by omega)
      obtain ⟨cur, hcur, hKc, hsame⟩ := hI.out.1.row
      obtain ⟨m, hm⟩ : ∃ m, Nat.min j (K - j) = m := ⟨_, rfl⟩
      have hm1 : 1 ≤ m := by rw [← hm]; exact Nat.le_min.2 ⟨hj1, by omega⟩
      have hm2 : m ≤ j := by rw [← hm]; exact Nat.min_le_left _ _
      have hm3 : j + m ≤ K := by have : m ≤ K - j := by rw [← hm]; exact Nat.min_le_right _ _
                                 omega
      have t1 : ∀ W : World, (Instr.slice 27 (.slice (some ⟨w.heap.size, 0, none⟩) K K) (some (.int .i64 (j : Int))) none none).run Try.prog W = .ok (.slice (some ⟨w.heap.size, j, none⟩) (K - j) (K - j)) W := fun W => by
        rw [sl8_l W _ K K .i64 (j : Int) (by omega) (by omega), show ((j : Int)).toNat = j by omega]
        unfold cutA
        rw [if_neg (by omega), Option.map_some, add_plain]
      have t2 : ∀ W : World, (Instr.slice 27 (.slice (some ⟨w.heap.size, 0, none⟩) K K) none (some (.int .i64 (j : Int))) none).run Try.prog W = .ok (.slice (some ⟨w.heap.size, 0, none⟩) j K) W := fun W => by
        rw [sl8_h W _ K K .i64 (j : Int) (by omega) (by omega), show ((j : Int)).toNat = j by omega]
      have iw : IntKind.i64.wrap ((j : Int) + (m : Int)) = ((j + m : Nat) : Int) := by rw [IntWalk.i64_in _ (by omega)]; omega
      have C1 := Aside0.mk (show (List.replicate m (Value.int .u8 (v.toNat : Int))).length = Nat.min j (K - j) from by rw [List.length_replicate, hm])
      have C2 := Aside0.mk (show ∀ (i : Nat) (u : Value), (List.replicate m (Value.int .u8 (v.toNat : Int)))[i]? = some u → wr.drew.cell? ((⟨w.heap.size, 0, none⟩ : Addr).add i) = some u from fun i u hu => by
        have hi : i < m := by
          have := (List.getElem?_eq_some_iff.1 hu).1
          simpa using this
        rw [List.getElem?_replicate_of_lt hi] at hu
        rw [add_plain]
        have h := hsame i (by omega)
        rw [cell_of_row _ _ _ _ _ _ (show wr.drew.heap[w.heap.size]? = some (.cells cur 5 (0, 0)) from hcur), h, hu])
      have C3 := Aside0.mk (show j + (List.replicate m (Value.int .u8 (v.toNat : Int))).length ≤ cur.size by rw [List.length_replicate]; omega)
      have C4 := Aside0.mk (show ∀ u ∈ List.replicate m (Value.int .u8 (v.toNat : Int)), u.oneCell' = true from fun u hu => by rw [List.eq_of_mem_replicate hu]; rfl)
      have HC := Aside0.mk (show wr.drew.heap[w.heap.size]? = some (.cells cur 5 (0, 0)) from hcur)
      have HN := Aside0.mk (And.intro (same_copy (w := wr.drew) HC.out hKc hsame m hm3) (below_setRow (below_drew hI.out.2) (Nat.le_refl _) (cur.toList.take j ++ (List.replicate m (Value.int .u8 (v.toNat : Int)) ++ cur.toList.drop (j + (List.replicate m (Value.int .u8 (v.toNat : Int))).length))).toArray))
      replace hm := Aside0.mk hm
      clear hsame hcur
      go_upto_region 20 with fail
      refine wp_region_M (fun j => false) (fun _ => True) (by kernel_rfl) ?_
      refine wpAnyM_take0 (i := 0) (v := ?_) (by simp only [List.getElem?_toArray, List.getElem?_cons_succ, List.getElem?_cons_zero]; rfl) (by kernel_rfl) (by kernel_rfl) (by kernel_rfl) (by rfl) (by exact fun _ _ _ h => h) (Or.inl ⟨by rfl, ?_⟩) ?_
      rotate_left
      · (intro w' _; go_simp; try with_reducible rfl)
      try simp only [Act.put, List.setIfInBounds_toArray, List.set_cons_zero, List.set_cons_succ]
      refine wpAnyM_take0 (i := 1) (v := ?_) (by simp only [List.getElem?_toArray, List.getElem?_cons_succ, List.getElem?_cons_zero]; rfl) (by kernel_rfl) (by kernel_rfl) (by kernel_rfl) (by rfl) (by exact fun _ _ _ h => h) (Or.inl ⟨by rfl, ?_⟩) ?_
      rotate_left
      · (intro w' _; go_simp; try with_reducible rfl)
      try simp only [Act.put, List.setIfInBounds_toArray, List.set_cons_zero, List.set_cons_succ]
      refine wpAnyM_take0 (i := 2) (v := ?_) (by simp only [List.getElem?_toArray, List.getElem?_cons_succ, List.getElem?_cons_zero]; rfl) (by kernel_rfl) (by kernel_rfl) (by kernel_rfl) (by rfl) (by exact fun _ _ _ h => h) (Or.inl ⟨by rfl, ?_⟩) ?_
      rotate_left
      · (intro w' _; go_simp; try with_reducible rfl)
      try simp only [Act.put, List.setIfInBounds_toArray, List.set_cons_zero, List.set_cons_succ]
      refine wpAnyM_take0 (i := 3) (v := ?_) (by simp only [List.getElem?_toArray, List.getElem?_cons_succ, List.getElem?_cons_zero]; rfl) (by kernel_rfl) (by kernel_rfl) (by kernel_rfl) (by rfl) (by exact fun _ _ _ h => h) (Or.inl ⟨by rfl, ?_⟩) ?_
      rotate_left
      · (intro w' _; go_simp; try with_reducible rfl)
      try simp only [Act.put, List.setIfInBounds_toArray, List.set_cons_zero, List.set_cons_succ]
      refine wpAnyM_take0 (i := 4) (v := ?_) (by simp only [List.getElem?_toArray, List.getElem?_cons_succ, List.getElem?_cons_zero]; rfl) (by kernel_rfl) (by kernel_rfl) (by kernel_rfl) (by rfl) (by exact fun _ _ _ h => h) (Or.inl ⟨by rfl, ?_⟩) ?_
      rotate_left
      · (intro w' _; go_simp; try with_reducible rfl)
      try simp only [Act.put, List.setIfInBounds_toArray, List.set_cons_zero, List.set_cons_succ]
      refine wpAnyM_take0 (i := 5) (v := ?_) (by simp only [List.getElem?_toArray, List.getElem?_cons_succ, List.getElem?_cons_zero]; rfl) (by kernel_rfl) (by kernel_rfl) (by kernel_rfl) (by rfl) (by exact fun _ _ _ h => h) (Or.inl ⟨by rfl, ?_⟩) ?_
      rotate_left
      · (intro w' _; go_simp; try with_reducible rfl)
      try simp only [Act.put, List.setIfInBounds_toArray, List.set_cons_zero, List.set_cons_succ]
      refine wpAnyM_take0 (i := 6) (v := ?_) (by simp only [List.getElem?_toArray, List.getElem?_cons_succ, List.getElem?_cons_zero]; rfl) (by kernel_rfl) (by kernel_rfl) (by kernel_rfl) (by rfl) (by exact fun _ _ _ h => h) (Or.inl ⟨by rfl, ?_⟩) ?_
      rotate_left
      · (intro w' _; go_simp; try with_reducible rfl)
      try simp only [Act.put, List.setIfInBounds_toArray, List.set_cons_zero, List.set_cons_succ]
      refine wpAnyM_one (i := 7) (by kernel_rfl) (by simp only [List.getElem?_toArray, List.getElem?_cons_succ, List.getElem?_cons_zero]; rfl) ?_
      refine wpList_copy_own (by rfl) (.tmp 70) (.tmp 73) _ _ (by rfl) 5 Try.underlying27 C5.out w.heap.size j (K - j) (K - j) ⟨w.heap.size, 0, none⟩ j K (by rfl) (by rfl) cur 5 HC.out (List.replicate m (Value.int .u8 (v.toNat : Int))) C1.out C2.out C3.out C4.out ?_
      refine wpl_nil ⟨rfl, fun _ => trivial, ?_⟩
      rw [List.length_replicate] at HN ⊢
      try simp only [Act.put, List.setIfInBounds_toArray, List.set_cons_zero, List.set_cons_succ]
      refine wpAnyM_take0 (i := 8) (v := ?_) (by simp only [List.getElem?_toArray, List.getElem?_cons_succ, List.getElem?_cons_zero]; rfl) (by kernel_rfl) (by kernel_rfl) (by kernel_rfl) (by rfl) (by exact fun _ _ _ h => h) (Or.inl ⟨by rfl, ?_⟩) ?_
      rotate_left
      · (intro w' _; go_simp; try with_reducible rfl)
      try simp only [Act.put, List.setIfInBounds_toArray, List.set_cons_zero, List.set_cons_succ]
      refine wpAnyM_take0 (i := 9) (v := ?_) (by simp only [List.getElem?_toArray, List.getElem?_cons_succ, List.getElem?_cons_zero]; rfl) (by kernel_rfl) (by kernel_rfl) (by kernel_rfl) (by rfl) (by exact fun _ _ _ h => h) (Or.inl ⟨by rfl, ?_⟩) ?_
      rotate_left
      · (intro w' _; go_simp; try with_reducible rfl)
      try simp only [Act.put, List.setIfInBounds_toArray, List.set_cons_zero, List.set_cons_succ]
      refine wpAnyM_done (by kernel_rfl) ?_ _
      go_wp2_with fail
      go_roundg (K - (j + m))
      case measure => have := hk.out; omega
      case rel => exact ⟨j + m, (by show K - (j + m) + (j + m) = K; omega), by go_num, by omega, ⟨HN.out.1, HN.out.2⟩⟩
    · obtain rfl : K = j := by omega
      have d1 : decide ((K : Int) < (K : Int)) = false := by simp
      go_wp2_with fail
      go_ret
      obtain ⟨cur, hcur, hKc, hsame⟩ := hI.out.1.row
      refine ⟨_, rfl, Nat.le_refl _, (Array.getElem?_eq_some_iff.1 hcur).1, ⟨by simp, Nat.le_refl _, by omega, by omega, fun _ => ⟨_, rfl, fun i hi => ?_⟩⟩, hI.out.2⟩
      rw [add_plain, cell_of_row _ _ _ _ _ _ hcur, hsame i hi]
      simp [b8, List.getD_eq_getElem?_getD, List.getElem?_replicate_of_lt hi]
end Go.Proofs.Ytbjfklgmbeaaoaa
