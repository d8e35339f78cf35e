/- Slices of elements of many cells that the program itself made; a disk in memory. The walks of disk's small functions. The walk of a disk's Grow. The walks of slices.Clone at sectors and at writes. The walk of bytes.Repeat at one byte, told 128, 256 or 300 times. -/
import Derived.Test.YtbjfklgmbeaaoaaGreatZ1
import Derived.Test.YtbjfklgmbeaaoaaGreatZ3
import Derived.Deep.MidRow
import Derived.Lib.SmallJoins
import Derived.Deep.WholeRow
import Derived.Laws.CopyOwn
import Derived.Deep.DeepCutAuto
import Derived.Laws.Externs
import Derived.Lib.MakeNoZero
set_option linter.unusedVariables false
set_option linter.unusedSimpArgs false
namespace Go.Proofs.YtbjfklgmbeaaoaaGreat
open Go.RowKit

/-- A slice of elements of k cells each. -/
structure Oc (w : World) (base : Nat) (T : TypeId) (k : Nat) (A : Option Addr) (n c : Nat) (xs : List Value) : Prop where
  row : w.ownsRow base T k (.slice A n c) n xs
  one : ∀ v, v ∈ xs → v.oneCell' = true
  lim : n ≤ 1000000000
theorem Oc.len {w : World} {base k n c : Nat} {T : TypeId} {A : Option Addr} {xs : List Value} (h : Oc w base T k A n c xs) : xs.length = n * k := h.row.1
theorem Oc.nil (w : World) (base : Nat) (T : TypeId) (k : Nat) : Oc w base T k none 0 0 [] := ⟨World.ownsRow_nil _ _ _ _, fun _ h => absurd h List.not_mem_nil, by omega⟩
theorem Oc.kept {w w1 : World} {base k n c : Nat} {T : TypeId} {A : Option Addr} {xs : List Value} (h : Oc w base T k A n c xs) (hb : ∀ g, A = some ⟨g, 0, none⟩ → g < w.heap.size → w1.heap[g]? = w.heap[g]?) : Oc w1 base T k A n c xs := by
  refine ⟨⟨h.row.1, ?_⟩, h.one, h.lim⟩
  rcases h.row.2 with hn | ⟨g, cap, cur, hv, hg, hh, rest⟩
  · exact .inl hn
  · refine .inr ⟨g, cap, cur, hv, hg, ?_, rest⟩
    injection hv with h1 _ _
    rw [hb g h1 (Array.getElem?_eq_some_iff.1 hh).1]
    exact hh
theorem Oc.below {w w1 : World} {base k n c : Nat} {T : TypeId} {A : Option Addr} {xs : List Value} (h : Oc w base T k A n c xs) (hb : Below w.heap.size w w1) : Oc w1 base T k A n c xs := h.kept fun g _ hg => hb.block g hg
theorem Oc.only {w w1 : World} {base k n c g : Nat} {T : TypeId} {A : Option Addr} {xs : List Value} (h : Oc w base T k A n c xs) (ho : OnlyB g w w1) (hne : ∀ j, A = some ⟨j, 0, none⟩ → j ≠ g) : Oc w1 base T k A n c xs := h.kept fun j e hj => ho.block j hj (hne j e)
theorem Oc.mono {w : World} {base base' k n c : Nat} {T : TypeId} {A : Option Addr} {xs : List Value} (h : Oc w base T k A n c xs) (hb : base' ≤ base) : Oc w base' T k A n c xs := by
  refine ⟨⟨h.row.1, ?_⟩, h.one, h.lim⟩
  rcases h.row.2 with hn | ⟨g, cap, cur, hv, hg, rest⟩
  · exact .inl hn
  · exact .inr ⟨g, cap, cur, hv, by omega, rest⟩
theorem Oc.head {w : World} {base k n c : Nat} {T : TypeId} {A : Option Addr} {xs : List Value} (h : Oc w base T k A n c xs) (h0 : 0 < n) :
    ∃ g, A = some ⟨g, 0, none⟩ ∧ base ≤ g ∧ g < w.heap.size := by
  rcases h.row.2 with ⟨hv, hn⟩ | ⟨g, cap, cur, hv, hg, hh, _⟩
  · omega
  · injection hv with h1 _ _
    exact ⟨g, h1, hg, (Array.getElem?_eq_some_iff.1 hh).1⟩
theorem Oc.addr {w : World} {base k n c : Nat} {T : TypeId} {A : Option Addr} {xs : List Value} (h : Oc w base T k A n c xs) : A = none ∨ ∃ g, A = some ⟨g, 0, none⟩ ∧ base ≤ g ∧ g < w.heap.size := by
  rcases h.row.2 with ⟨hv, hn⟩ | ⟨g, cap, cur, hv, hg, hh, _⟩
  · injection hv with h1 _ _
    exact .inl h1
  · injection hv with h1 _ _
    exact .inr ⟨g, h1, hg, (Array.getElem?_eq_some_iff.1 hh).1⟩
theorem Oc.cap {w : World} {base k n c : Nat} {T : TypeId} {A : Option Addr} {xs : List Value} (h : Oc w base T k A n c xs) : n ≤ c ∧ c ≤ 9223372036854775807 := by
  rcases h.row.2 with ⟨hv, hn⟩ | ⟨g, cap, cur, hv, hg, hh, hc, hm, _⟩
  · injection hv with _ h2 h3
    omega
  · injection hv with _ _ h3
    simp only [maxLen] at hm
    omega
/-- One element's cells, and that they may be written. -/
theorem Oc.at_ {w : World} {base k n c g : Nat} {T : TypeId} {xs : List Value} (h : Oc w base T k (some ⟨g, 0, none⟩) n c xs) (i : Nat) (hi : i < n) :
    w.rangeAt g (i * k) ((xs.drop (i * k)).take k) ∧ w.there g (i * k) k := by
  rcases h.row.2 with ⟨hv, hn⟩ | ⟨g', cap, cur, hv, hg, hh, hc, hm, hs, ht⟩
  · omega
  · injection hv with h1 h2 h3
    injection h1 with h1
    injection h1 with h1
    subst h1
    have hik : (i + 1) * k ≤ n * k := Nat.mul_le_mul_right k hi
    have hnk : n * k ≤ cap * k := Nat.mul_le_mul_right k hc
    rw [Nat.add_mul, Nat.one_mul] at hik
    constructor
    · intro j v hv
      have hj : j < k := by
        have := (List.getElem?_eq_some_iff.1 hv).1
        rw [List.length_take] at this
        omega
      rw [cell_of_row _ _ _ _ _ _ hh]
      rw [List.getElem?_take_of_lt hj, List.getElem?_drop, ← ht, List.getElem?_take_of_lt (by omega)] at hv
      rw [← Array.getElem?_toList]
      exact hv
    · intro j hj
      refine ⟨?_, by simp [World.frozen?, hh]⟩
      rw [cell_of_row _ _ _ _ _ _ hh, Array.getElem?_eq_getElem (by omega)]
      rfl
theorem setCells_row (w : World) (g : Nat) (T : TypeId) : ∀ (vs : List Value) (o : Nat) (w : World) (cur : Array Value), w.heap[g]? = some (.cells cur T (0, 0)) → o + vs.length ≤ cur.size →
    (w.setCells g o vs).heap[g]? = some (.cells (cur.toList.take o ++ (vs ++ cur.toList.drop (o + vs.length))).toArray T (0, 0)) ∧ OnlyB g w (w.setCells g o vs)
  | [], o, w, cur, h, ho => by
    rw [World.setCells]
    refine ⟨?_, OnlyB.refl g w⟩
    rw [h]
    simp
  | v :: r, o, w, cur, h, ho => by
    rw [World.setCells]
    have h1 : (w.setCell ⟨g, o, none⟩ v).heap[g]? = some (.cells (cur.setIfInBounds o v) T (0, 0)) := heap_setCell_same w g o _ _ v h
    simp only [List.length_cons] at ho
    obtain ⟨h2, h3⟩ := setCells_row w g T r (o + 1) _ _ h1 (by rw [Array.size_setIfInBounds]; omega)
    refine ⟨?_, ?_⟩
    · rw [h2]
      congr 3
      apply List.ext_getElem?
      intro i
      have hl1 : (List.take (o + 1) (cur.setIfInBounds o v).toList).length = o + 1 := by simp; omega
      have hl2 : (List.take o cur.toList).length = o := by simp; omega
      simp only [Array.toList_setIfInBounds, List.length_cons]
      rw [Array.toList_setIfInBounds] at hl1
      rcases Nat.lt_trichotomy i o with hi | hi | hi
      · rw [List.getElem?_append_left (by omega), List.getElem?_append_left (by omega), List.getElem?_take_of_lt (by omega), List.getElem?_take_of_lt hi, List.getElem?_set_ne (by omega)]
      · subst hi
        rw [List.getElem?_append_left (by omega), List.getElem?_take_of_lt (by omega), List.getElem?_append_right (by omega), hl2, Nat.sub_self, List.getElem?_set_self (by simp; omega)]
        rfl
      · have L1 : ∀ R1 : List Value, (List.take (o + 1) (cur.toList.set o v) ++ R1)[i]? = R1[i - (o + 1)]? := fun R1 => by rw [List.getElem?_append_right (by omega), hl1]
        have L2 : ∀ R2 : List Value, (List.take o cur.toList ++ (v :: r ++ R2))[i]? = (r ++ R2)[i - (o + 1)]? := fun R2 => by rw [List.getElem?_append_right (by omega), hl2, show i - o = (i - (o + 1)) + 1 by omega, List.cons_append, List.getElem?_cons_succ]
        rw [L1, L2]
        rcases Nat.lt_or_ge (i - (o + 1)) r.length with hr | hr
        · rw [List.getElem?_append_left hr, List.getElem?_append_left hr]
        · rw [List.getElem?_append_right hr, List.getElem?_append_right hr, List.getElem?_drop, List.getElem?_drop, List.getElem?_set_ne (by omega)]
          congr 1
          omega
    · exact ⟨h3.os, h3.tape, h3.output, by have := h3.size; simpa using this, fun i hi hne => (h3.block i (by simpa using hi) hne).trans (((OnlyB.refl g w).set o v).block i hi hne)⟩
/-- One element is another. -/
theorem Oc.put {w : World} {base k n c g : Nat} {T : TypeId} {xs : List Value} (h : Oc w base T k (some ⟨g, 0, none⟩) n c xs) (i : Nat) (hi : i < n) (vs : List Value) (hv : vs.length = k) (h1 : ∀ v, v ∈ vs → v.oneCell' = true) :
    Oc (w.setCells g (i * k) vs) base T k (some ⟨g, 0, none⟩) n c (xs.take (i * k) ++ (vs ++ xs.drop (i * k + k))) ∧ OnlyB g w (w.setCells g (i * k) vs) := by
  have hl := h.len
  have hik : (i + 1) * k ≤ n * k := Nat.mul_le_mul_right k hi
  rw [Nat.add_mul, Nat.one_mul] at hik
  rcases h.row.2 with ⟨hv', hn⟩ | ⟨g', cap, cur, hv', hg, hh, hc, hm, hs, ht⟩
  · omega
  · injection hv' with e1 e2 e3
    injection e1 with e1
    injection e1 with e1
    subst e1 e3
    have hnk : n * k ≤ c * k := Nat.mul_le_mul_right k hc
    obtain ⟨k1, k2⟩ := setCells_row w g T vs (i * k) w cur hh (by omega)
    refine ⟨⟨⟨by simp only [List.length_append, List.length_take, List.length_drop]; omega, .inr ⟨g, c, _, rfl, hg, k1, hc, hm, ?_, ?_⟩⟩, fun v hv => ?_, h.lim⟩, k2⟩
    · simp only [List.size_toArray, List.length_append, List.length_take, List.length_drop, Array.length_toList]
      omega
    · have e4 : (List.take (i * k) cur.toList).length = i * k := by rw [List.length_take, Array.length_toList]; omega
      rw [List.take_append, e4, List.take_of_length_le (by omega), List.take_append, List.take_of_length_le (l := vs) (by omega), hv, ← ht, List.take_take, Nat.min_eq_left (by omega), List.drop_take]
      congr 3
      omega
    · rcases List.mem_append.1 hv with hv | hv
      · exact h.one v (List.mem_of_mem_take hv)
      · rcases List.mem_append.1 hv with hv | hv
        · exact h1 v hv
        · exact h.one v (List.mem_of_mem_drop hv)
/-- What grew behind a slice: all but its own block is as it was. -/
structure Grw (A : Option Addr) (W w1 : World) : Prop where
  os : w1.os = W.os
  tape : w1.tape = W.tape
  output : w1.output = W.output
  size : W.heap.size ≤ w1.heap.size
  block : ∀ k, k < W.heap.size → A ≠ some ⟨k, 0, none⟩ → w1.heap[k]? = W.heap[k]?
/-- append of one element of k cells. -/
theorem wpl_oc {P : Program} {ops : Array Oper} {rest : List Oper} {o : Oper} {a : Act} {Q : Exit → Act → World → Prop} {W : World} (base : Nat) (hgd : o.guard = none) (s x : Operand) (t T : TypeId) (z : Value) (k bytes : Nat)
    (ho : o.op = .call { callee := .builtin .append, args := #[s, x], argTypes := #[t, t] })
    (ht : P.underlying t = some (.slice T)) (hinfo : (P.info? T).map (fun i => (i.zero, i.size, i.bytes)) = some (some z, k, bytes)) (hzs : z.cells.size = k) (hk : 0 < k) (hb0 : 0 < bytes) (hb1 : bytes ≤ 1000)
    (A : Option Addr) (n c N : Nat) (xs news : List Value) (hs : a.eval s = .slice A n c) (hx : a.eval x = .slice (some ⟨N, 0, none⟩) 1 1)
    (HO : Oc W base T k A n c xs) (hnl : news.length = k) (hnew : W.rangeAt N 0 news) (h1 : ∀ u, u ∈ news → u.oneCell' = true) (hbase : base ≤ W.heap.size) (hn : n + 1 ≤ 1000000000)
    (h : ∀ A2 c2 w1, Aside0 (Oc w1 base T k A2 (n + 1) c2 (xs ++ news)) → Aside0 (Grw A W w1) → Aside0 (A2 = A ∨ A2 = some ⟨W.heap.size, 0, none⟩) → wpList P ops Q rest (a.put o.dst (.slice A2 (n + 1) c2)) w1) :
    wpList P ops Q (o :: rest) a W := by
  refine wpl_append (w0 := W) base hgd s x t T z k bytes ho ht hinfo hzs hk hb0 (.slice A n c) n xs (some ⟨N, 0, none⟩) 1 1 news hs hx HO.row (by rw [hnl, Nat.one_mul]) (fun _ => ⟨_, rfl, fun j u hu => ?_⟩) (fun u hu => h1 u hu) (Below.refl _ _) hbase ?_ ?_
  · rw [add_plain]
    have := hnew j u hu
    rwa [Nat.zero_add] at this
  · have := Nat.mul_le_mul hn hb1
    omega
  · intro v1 w1 hown hB hg hat
    obtain ⟨A2, c2, rfl⟩ := own_form hown
    refine h A2 c2 w1 ⟨⟨hown, fun u hu => ?_, hn⟩⟩ ⟨⟨hg.os, hg.tape, hg.output, hg.size, fun j hj hne => hg.block j hj ?_⟩⟩ ⟨?_⟩
    · rcases List.mem_append.1 hu with hu | hu
      · exact HO.one u hu
      · exact h1 u hu
    · rcases HO.addr with rfl | ⟨q, rfl, _⟩
      · intro e
        cases e
      · intro e
        simp only [Value.ownBlock, Option.some.injEq] at e
        exact hne (by rw [e])
    · have hO2 : Oc w1 base T k A2 (n + 1) c2 (xs ++ news) := ⟨hown, fun u hu => by
        rcases List.mem_append.1 hu with hu | hu
        · exact HO.one u hu
        · exact h1 u hu, hn⟩
      obtain ⟨q2, rfl, _⟩ := hO2.head (by omega)
      rcases hat with e | e
      · rcases HO.addr with rfl | ⟨q, rfl, _⟩
        · cases e
        · simp only [Value.ownBlock, Option.some.injEq] at e
          exact .inl (by rw [e])
      · simp only [Value.ownBlock, Option.some.injEq] at e
        exact .inr (by rw [e])
theorem Grw.below {A : Option Addr} {B : Nat} {w0 w w1 : World} {o : Obj} (hg : Grw A (w.alloc o) w1) (hb : Below B w0 w) (h : ∀ k, A = some ⟨k, 0, none⟩ → B ≤ k) (hB : B ≤ w.heap.size) : Below B w0 w1 :=
  ⟨hg.os.trans hb.os, hg.tape.trans hb.tape, hg.output.trans hb.output, Nat.le_trans hb.size (by have := hg.size; simp at this; omega), fun k hk => (hg.block k (by simp; omega) (fun e => by have := h k e; omega)).trans ((Below.heap_alloc _ _ _ (by omega)).trans (hb.block k hk))⟩
theorem Oc.lo {w : World} {base k n c : Nat} {T : TypeId} {A : Option Addr} {xs : List Value} (h : Oc w base T k A n c xs) (j : Nat) (e : A = some ⟨j, 0, none⟩) : base ≤ j := by
  rcases h.addr with q | ⟨i, q, q2, _⟩
  · rw [q] at e
    cases e
  · rw [q] at e
    injection e with e
    injection e with e
    omega
end Go.Proofs.YtbjfklgmbeaaoaaGreat

set_option linter.unusedVariables false
set_option linter.unusedSimpArgs false
namespace Go.Proofs.YtbjfklgmbeaaoaaGreat
open Go.RowKit

end Go.Proofs.YtbjfklgmbeaaoaaGreat

set_option linter.unusedVariables false
set_option linter.unusedSimpArgs false
namespace Go.Proofs.YtbjfklgmbeaaoaaGreat
open Go.RowKit

theorem lit_range (w : World) (C : Array Value) (T : TypeId) (vs : List Value) (hC : C = vs.toArray) : (w.alloc (.cells C T)).rangeAt w.heap.size 0 vs := by
  subst hC
  intro j v hv
  rw [cell_of_row _ _ _ _ _ _ (heap_alloc_new w _), Nat.zero_add]
  simpa using hv
end Go.Proofs.YtbjfklgmbeaaoaaGreat

set_option linter.unusedVariables false
set_option linter.unusedSimpArgs false
namespace Go.Proofs.YtbjfklgmbeaaoaaGreat
open Go.RowKit

/-- A slice of elements of k cells, read. -/
structure Rc (w : World) (k : Nat) (A : Option Addr) (n c : Nat) (xs : List Value) : Prop where
  len : xs.length = n * k
  le : n ≤ c
  cap : c ≤ 9223372036854775807
  lim : n ≤ 1000000000
  one : ∀ v, v ∈ xs → v.oneCell' = true
  cells : 0 < n → ∃ ad, A = some ad ∧ ∀ j u, xs[j]? = some u → w.cell? (ad.add j) = some u
theorem Oc.rc {w : World} {base k n c : Nat} {T : TypeId} {A : Option Addr} {xs : List Value} (h : Oc w base T k A n c xs) : Rc w k A n c xs := by
  refine ⟨h.len, h.cap.1, h.cap.2, h.lim, h.one, fun h0 => ?_⟩
  obtain ⟨g, rfl, _, _⟩ := h.head h0
  exact ⟨_, rfl, fun j u hu => h.row.cells (g := g) rfl j u hu⟩
theorem Rc.below {w w1 : World} {k n c : Nat} {A : Option Addr} {xs : List Value} (h : Rc w k A n c xs) (hB : Below w.heap.size w w1) : Rc w1 k A n c xs :=
  ⟨h.len, h.le, h.cap, h.lim, h.one, fun h0 => by
    obtain ⟨ad, e, hx⟩ := h.cells h0
    exact ⟨ad, e, fun j u hu => cell_below hB (hx j u hu)⟩⟩
theorem Oc.lit0 (w : World) (base : Nat) (T : TypeId) (k : Nat) (h : base ≤ w.heap.size) : Oc (w.alloc (.cells #[] T)) base T k (some ⟨w.heap.size, 0, none⟩) 0 0 [] :=
  ⟨by simpa using World.ownsRow_lit (base := base) (e := T) (size := k) w #[] 0 h (by simp [maxLen]) (by simp), fun _ h => absurd h List.not_mem_nil, by omega⟩
end Go.Proofs.YtbjfklgmbeaaoaaGreat

set_option linter.unusedVariables false
set_option linter.unusedSimpArgs false
namespace Go.Proofs.YtbjfklgmbeaaoaaGreat
open Go.RowKit

end Go.Proofs.YtbjfklgmbeaaoaaGreat
