/- Words of this seat's own texts: slices of bytes that are read or owned, worlds that have grown, cuts of slices. The walks of crc's table and Update. The walk of crc.Update: what it does to a sum, nibble by nibble. The walks of slices.Clone, slices.Equal, bytes.Equal at bytes, and of crc's small functions. A region that draws its order, whose calls may make memory, and whose values hang on no new memory: one walk in the order of the text. A region that draws its order, in which a chain of operations writes: all others are taken first under a condition S on the world, which is to be shown behind each operation of a choice 'p' alone. More words: make([]byte, n). -/
import Derived.Test.YtagfljmjdkoehaaDoorProg
import Derived.WalkKit
import Derived.WalkSpells
import Derived.WalkLawsBesides
import Derived.BigQuiet
import Derived.Deep.QuietTactic
import Derived.Deep.LoopGhost
import Derived.Deep.DeepFit
import Derived.Deep.Draws
import Derived.KernelRfl
import Derived.RowKit3
import Derived.LoopN
import Derived.Lib.SlBytesConst
import Derived.Lib.SmallJoins
import Derived.Deep.RegionWith
import Derived.Deep.RegionHeld3
import Derived.Deep.RegionLaw
import Derived.Maps.AppendAt
import Derived.Laws.OwnMore
import Derived.OrdersHeld
import Derived.Deep.MidRow
import Derived.Great.BuildSlice
import Derived.Deep.DeepCutAuto
import Derived.Deep.OwnRows
set_option linter.unusedVariables false
set_option linter.unusedSimpArgs false
namespace Go.Proofs.YtagfljmjdkoehaaDoor
open Go.RowKit

/-- A fact that the walk's simp does not look into. -/
structure Aside0 (p : Prop) : Prop where mk :: (out : p)

theorem ret_bool {a b : Bool} (h : a = b) : Ending.returned (.bool a) = .returned (.bool b) := by rw [h]
theorem ret_int {k : IntKind} {a b : Int} (h : a = b) : Ending.returned (.int k a) = .returned (.int k b) := by rw [h]
theorem ret_val {a b : Value} (h : a = b) : Ending.returned a = .returned b := by rw [h]

theorem add_plain (g j : Nat) : (⟨g, 0, none⟩ : Addr).add j = ⟨g, j, none⟩ := by unfold Addr.add; split <;> simp_all

/-! Bytes -/
def b8 (xs : List UInt8) (i : Nat) : Int := ((xs.getD i 0).toNat : Int)
theorem b8_lo (xs : List UInt8) (i : Nat) : 0 ≤ b8 xs i := by unfold b8; omega
theorem b8_hi (xs : List UInt8) (i : Nat) : b8 xs i ≤ 255 := by unfold b8; have := (xs.getD i 0).toNat_lt; omega
def u8v (xs : List UInt8) : List Value := xs.map fun x => .int .u8 (x.toNat : Int)
theorem u8v_length (xs : List UInt8) : (u8v xs).length = xs.length := by simp [u8v]
theorem u8v_append (xs ys : List UInt8) : u8v (xs ++ ys) = u8v xs ++ u8v ys := by simp [u8v]
theorem u8v_get (xs : List UInt8) (j : Nat) (h : j < xs.length) : (u8v xs)[j]? = some (.int .u8 (b8 xs j)) := by
  simp [u8v, b8, List.getElem?_eq_getElem h, List.getD_eq_getElem?_getD]
theorem u8v_one (xs : List UInt8) : ∀ u ∈ u8v xs, u.oneCell' = true := by
  intro u hu
  simp only [u8v, List.mem_map] at hu
  obtain ⟨q, _, rfl⟩ := hu
  rfl

/-! A slice of bytes that is read -/
structure Bs (w : World) (A : Option Addr) (n c : Nat) (xs : List UInt8) : Prop where
  len : xs.length = n
  le : n ≤ c
  cap : c ≤ 9223372036854775807
  lim : n ≤ 140737488355328
  cells : 0 < n → ∃ ad, A = some ad ∧ ∀ j, j < n → w.cell? (ad.add j) = some (.int .u8 (b8 xs j))

theorem Bs.at_ {w : World} {A : Option Addr} {n c : Nat} {xs : List UInt8} (h : Bs w A n c xs) (i : Int) (h0 : 0 ≤ i) (h1 : i < (n : Int)) :
    ∃ ad, A = some ad ∧ w.cell? (ad.add i.toNat) = some (.int .u8 (b8 xs i.toNat)) := by
  obtain ⟨ad, e, hc⟩ := h.cells (by omega)
  exact ⟨ad, e, hc _ (by omega)⟩
theorem Bs.atN {w : World} {A : Option Addr} {n c : Nat} {xs : List UInt8} (h : Bs w A n c xs) (i : Nat) (h1 : i < n) :
    ∃ ad, A = some ad ∧ w.cell? (ad.add i) = some (.int .u8 (b8 xs i)) := by
  obtain ⟨ad, e, hc⟩ := h.cells (by omega)
  exact ⟨ad, e, hc _ (by omega)⟩
theorem Bs.nil (w : World) (A : Option Addr) (c : Nat) (hc : c ≤ 9223372036854775807) : Bs w A 0 c [] := ⟨rfl, Nat.zero_le _, hc, by omega, fun h => absurd h (by omega)⟩
theorem cell_below {w w1 : World} (h : Below w.heap.size w w1) {a : Addr} {v : Value} (hc : w.cell? a = some v) : w1.cell? a = some v := (h.cell (World.block_lt_of_cell? w a hc)).trans hc
theorem Bs.below {w w1 : World} {A : Option Addr} {n c : Nat} {xs : List UInt8} (h : Bs w A n c xs) (hb : Below w.heap.size w w1) : Bs w1 A n c xs :=
  ⟨h.len, h.le, h.cap, h.lim, fun hn => by
    obtain ⟨ad, e, hc⟩ := h.cells hn
    exact ⟨ad, e, fun j hj => cell_below hb (hc j hj)⟩⟩
theorem Bs.map {w w1 : World} {A : Option Addr} {n c : Nat} {xs : List UInt8} (h : Bs w A n c xs) (hb : ∀ a v, w.cell? a = some v → w1.cell? a = some v) : Bs w1 A n c xs :=
  ⟨h.len, h.le, h.cap, h.lim, fun hn => by
    obtain ⟨ad, e, hc⟩ := h.cells hn
    exact ⟨ad, e, fun j hj => hb _ _ (hc j hj)⟩⟩
theorem below_alloc {B : Nat} {w W : World} (h : Below B w W) (hB : B ≤ W.heap.size) (o : Obj) : Below B w (W.alloc o) := h.alloc hB o
theorem below_drew {B : Nat} {w W : World} (h : Below B w W) : Below B w W.drew := ⟨h.os, h.tape, h.output, h.size, h.block⟩
theorem below_drawn {B : Nat} {w W : World} (h : Below B w W) (n : Nat) : Below B w (W.drewN n) := ⟨h.os, h.tape, h.output, h.size, h.block⟩
theorem Bs.alloc {w : World} {A : Option Addr} {n c : Nat} {xs : List UInt8} (h : Bs w A n c xs) (o : Obj) : Bs (w.alloc o) A n c xs := h.below ((Below.refl _ _).alloc (Nat.le_refl _) o)
theorem Bs.drewN {w : World} {A : Option Addr} {n c : Nat} {xs : List UInt8} (h : Bs w A n c xs) (m : Nat) : Bs (w.drewN m) A n c xs := h.map (fun _ _ h => h)
theorem Bs.drew {w : World} {A : Option Addr} {n c : Nat} {xs : List UInt8} (h : Bs w A n c xs) : Bs w.drew A n c xs := h.map (fun _ _ h => h)
theorem below_then {B : Nat} {w w1 w2 : World} (h : Below B w w1) (hB : B ≤ w1.heap.size) (k : Below w1.heap.size w1 w2) : Below B w w2 :=
  h.trans ⟨k.os, k.tape, k.output, k.size, fun i hi => k.block i (Nat.lt_of_lt_of_le hi hB)⟩
/-- What a walk wants of a world behind a call. -/
theorem bcell {W w1 : World} (hb : Below W.heap.size W w1) : (∀ b o, b < W.heap.size → w1.cell? ⟨b, o, none⟩ = W.cell? ⟨b, o, none⟩) ∧ (∀ b o, b < W.heap.size → w1.frozen? ⟨b, o, none⟩ = W.frozen? ⟨b, o, none⟩) :=
  ⟨fun b o h => hb.cell (p := ⟨b, o, none⟩) h, fun b o h => hb.frozen (p := ⟨b, o, none⟩) h⟩

/-! Cuts of a slice -/
def cutA (A : Option Addr) (c i : Nat) : Option Addr := if c = i then A else A.map (·.add i)
theorem add_add (ad : Addr) (i j : Nat) : (ad.add i).add j = ad.add (i + j) := by
  unfold Addr.add
  by_cases h1 : i = 0 <;> by_cases h2 : j = 0 <;> simp [h1, h2, Nat.add_assoc]
theorem Bs.take {w : World} {A : Option Addr} {n c : Nat} {xs : List UInt8} (h : Bs w A n c xs) (i : Nat) (hi : i ≤ n) : Bs w A i c (xs.take i) := by
  refine ⟨by rw [List.length_take, h.len]; omega, by have := h.le; omega, h.cap, by have := h.lim; omega, fun hp => ?_⟩
  obtain ⟨ad, e, hc⟩ := h.cells (by omega)
  refine ⟨ad, e, fun j hj => ?_⟩
  rw [hc j (by omega)]
  simp [b8, List.getD_eq_getElem?_getD, hj]
theorem Bs.drop {w : World} {A : Option Addr} {n c : Nat} {xs : List UInt8} (h : Bs w A n c xs) (i : Nat) (hi : i ≤ n) : Bs w (cutA A c i) (n - i) (c - i) (xs.drop i) := by
  refine ⟨by rw [List.length_drop, h.len], by have := h.le; omega, by have := h.cap; omega, by have := h.lim; omega, fun hp => ?_⟩
  obtain ⟨ad, rfl, hcell⟩ := h.cells (by omega)
  have := h.le
  unfold cutA
  rw [if_neg (by omega)]
  refine ⟨ad.add i, rfl, fun j hj => ?_⟩
  rw [add_add, hcell (i + j) (by omega)]
  simp [b8, List.getD_eq_getElem?_getD, List.getElem?_drop]

/-! The type of the slices of bytes -/
theorem elem8 : Tryd.prog.elem 27 = 5 := by simp [Program.elem, Tryd.underlying27]
theorem info8 : (Tryd.prog.info? 5).map (fun i => (i.zero, i.size, i.bytes)) = some (some (.int .u8 0), 1, 1) := by kernel_rfl
theorem und8 : Tryd.prog.underlying 27 = some (.slice (Tryd.prog.elem 27)) := by rw [elem8]; exact Tryd.underlying27
theorem size8 (w : World) : (sizeOf (Tryd.prog.elem 27)).run Tryd.prog w = .ok 1 w := by
  rw [elem8]
  obtain ⟨i, hi, hz⟩ := Option.map_eq_some_iff.1 info8
  simp only [Prod.mk.injEq] at hz
  simp [sizeOf, typeInfo, hi, hz.2.1]
theorem sl8_lh (w : World) (A : Option Addr) (n c : Nat) (kl kh : IntKind) (l h : Int) (h0 : 0 ≤ l) (h1 : l ≤ h) (h2 : h ≤ (c : Int)) :
    (Instr.slice 27 (.slice A n c) (some (.int kl l)) (some (.int kh h)) none).run Tryd.prog w = .ok (.slice (cutA A c l.toNat) (h.toNat - l.toNat) (c - l.toNat)) w := by
  rw [run_slice_lh w _ A n c und8 kl kh l h h0 h1 h2, size8]
  simp [sliced, cutA, Result.andThen]
theorem sl8_h (w : World) (A : Option Addr) (n c : Nat) (kh : IntKind) (h : Int) (h0 : 0 ≤ h) (h2 : h ≤ (c : Int)) :
    (Instr.slice 27 (.slice A n c) none (some (.int kh h)) none).run Tryd.prog w = .ok (.slice A h.toNat c) w := by
  rw [run_slice_h w _ A n c und8 kh h h0 h2, size8]
  simp [sliced, Result.andThen, Addr.add]
theorem sl8_l (w : World) (A : Option Addr) (n c : Nat) (kl : IntKind) (l : Int) (h0 : 0 ≤ l) (h1 : l ≤ (n : Int)) :
    (Instr.slice 27 (.slice A n c) (some (.int kl l)) none none).run Tryd.prog w = .ok (.slice (cutA A c l.toNat) (n - l.toNat) (c - l.toNat)) w := by
  rw [run_slice_l w _ A n c und8 kl l h0 h1, size8]
  simp [sliced, cutA, Result.andThen]

/-! A slice of bytes that the call itself made -/
structure Ow (w : World) (base : Nat) (A : Option Addr) (n c : Nat) (xs : List UInt8) : Prop where
  row : w.ownsRow base 5 1 (.slice A n c) n (u8v xs)
  lim : n ≤ 140737488355328
theorem own_form {w : World} {base n : Nat} {e : TypeId} {size : Nat} {v : Value} {xs : List Value} (h : w.ownsRow base e size v n xs) : ∃ A c, v = .slice A n c := by
  rcases h.2 with ⟨rfl, rfl⟩ | ⟨g, cap, cur, rfl, _⟩
  · exact ⟨none, 0, rfl⟩
  · exact ⟨_, cap, rfl⟩
theorem Ow.of_row {w : World} {base n : Nat} {v : Value} {xs : List UInt8} (h : w.ownsRow base 5 1 v n (u8v xs)) (hl : n ≤ 140737488355328) : ∃ A c, v = .slice A n c ∧ Ow w base A n c xs := by
  obtain ⟨A, c, rfl⟩ := own_form h
  exact ⟨A, c, rfl, h, hl⟩
theorem Ow.len {w : World} {base n c : Nat} {A : Option Addr} {xs : List UInt8} (h : Ow w base A n c xs) : xs.length = n := by
  have := h.row.1; rw [u8v_length] at this; omega
theorem Ow.bs {w : World} {base n c : Nat} {A : Option Addr} {xs : List UInt8} (h : Ow w base A n c xs) : Bs w A n c xs := by
  have hl := h.len
  rcases h.row.2 with ⟨hv, h0⟩ | ⟨g, cap, cur, hv, hg, hh, hn, hm, hcs, ht⟩
  · injection hv with h1 h2 h3
    subst h1; subst h2; subst h3
    exact ⟨hl, Nat.le_refl _, by omega, by omega, fun h => absurd h (by omega)⟩
  · injection hv with h1 h2 h3
    subst h1; subst h3
    refine ⟨hl, hn, by simp only [maxLen] at hm; omega, h.lim, fun _ => ⟨_, rfl, fun j hj => ?_⟩⟩
    exact h.row.cells (g := g) rfl j _ (u8v_get xs j (by omega))
theorem Ow.kept {w w1 : World} {base n c : Nat} {A : Option Addr} {xs : List UInt8} (h : Ow w base A n c xs) (hb : ∀ g, A = some ⟨g, 0, none⟩ → g < w.heap.size → w1.heap[g]? = w.heap[g]?) : Ow w1 base A n c xs := by
  refine ⟨⟨h.row.1, ?_⟩, h.lim⟩
  rcases h.row.2 with hn | ⟨g, cap, cur, hv, hg, hh, rest⟩
  · exact .inl hn
  · refine .inr ⟨g, cap, cur, hv, hg, ?_, rest⟩
    injection hv with h1 _ _
    rw [hb g h1 (Array.getElem?_eq_some_iff.1 hh).1]
    exact hh
theorem Ow.below {w w1 : World} {base n c : Nat} {A : Option Addr} {xs : List UInt8} (h : Ow w base A n c xs) (hb : Below w.heap.size w w1) : Ow w1 base A n c xs :=
  h.kept fun g _ hg => hb.block g hg
theorem Ow.alloc {w : World} {base n c : Nat} {A : Option Addr} {xs : List UInt8} (h : Ow w base A n c xs) (o : Obj) : Ow (w.alloc o) base A n c xs := h.below ((Below.refl _ _).alloc (Nat.le_refl _) o)
theorem Ow.drewN {w : World} {base n c : Nat} {A : Option Addr} {xs : List UInt8} (h : Ow w base A n c xs) (m : Nat) : Ow (w.drewN m) base A n c xs := h.kept fun _ _ _ => rfl
theorem Ow.mono {w : World} {base base' n c : Nat} {A : Option Addr} {xs : List UInt8} (h : Ow w base A n c xs) (hb : base' ≤ base) : Ow w base' A n c xs := by
  refine ⟨⟨h.row.1, ?_⟩, h.lim⟩
  rcases h.row.2 with hn | ⟨g, cap, cur, hv, hg, rest⟩
  · exact .inl hn
  · exact .inr ⟨g, cap, cur, hv, by omega, rest⟩
theorem Ow.nil (w : World) (base : Nat) : Ow w base none 0 0 [] := ⟨World.ownsRow_nil _ _ _ _, by omega⟩
theorem Ow.lit0 (w : World) (base N : Nat) (hN : w.heap.size = N) (h : base ≤ w.heap.size) : Ow (w.alloc (.cells #[] 5)) base (some ⟨N, 0, none⟩) 0 0 [] := by
  subst hN
  exact ⟨by simpa [u8v] using World.ownsRow_lit (base := base) (e := 5) (size := 1) w #[] 0 h (by simp [maxLen]) (by simp), by omega⟩
theorem Ow.head {w : World} {base n c : Nat} {A : Option Addr} {xs : List UInt8} (h : Ow w base A n c xs) (h0 : 0 < n) :
    ∃ g, A = some ⟨g, 0, none⟩ ∧ base ≤ g ∧ g < w.heap.size ∧ ∀ j, w.frozen? ⟨g, j, none⟩ = false := by
  rcases h.row.2 with ⟨hv, hn⟩ | ⟨g, cap, cur, hv, hg, hh, _⟩
  · omega
  · injection hv with h1 _ _
    exact ⟨g, h1, hg, (Array.getElem?_eq_some_iff.1 hh).1, fun j => by simp [World.frozen?, hh]⟩
theorem Ow.store {w : World} {base g n c : Nat} {xs : List UInt8} (h : Ow w base (some ⟨g, 0, none⟩) n c xs) (j : Nat) (x : UInt8) :
    Ow (w.setCell ⟨g, j, none⟩ (.int .u8 (x.toNat : Int))) base (some ⟨g, 0, none⟩) n c (xs.set j x) := by
  have hs := (h.row.stored j (.int .u8 (x.toNat : Int))).1
  have he : (u8v xs).set j (.int .u8 (x.toNat : Int)) = u8v (xs.set j x) := by simp [u8v, List.map_set]
  rw [he] at hs
  exact ⟨hs, h.lim⟩

/-- A literal row of bytes, read. -/
theorem Bs.lit (w : World) (N : Nat) (hN : w.heap.size = N) (C : Array Value) (T : TypeId) (fr : Nat × Nat) (n c : Nat) (xs : List UInt8) (hC : C = (u8v xs).toArray) (hn : xs.length = n) (hc : n ≤ c) (hc' : c ≤ 9223372036854775807) (hl : n ≤ 140737488355328) : Bs (w.alloc (.cells C T fr)) (some ⟨N, 0, none⟩) n c xs := by
  subst hN
  refine ⟨hn, hc, hc', hl, fun _ => ⟨_, rfl, fun j hj => ?_⟩⟩
  rw [add_plain, World.cell?_alloc_mark, hC]
  simpa using u8v_get xs j (by omega)

/-! append(v, x...), whatever is appended -/
section
variable {P : Program} {ops : Array Oper} {rest : List Oper} {o : Oper} {a : Act} {Q : Exit → Act → World → Prop}
theorem wpl_append {w0 W : World} (base : Nat) (hgd : o.guard = none) (s x : Operand) (t e : TypeId) (z : Value) (size bytes : Nat)
    (ho : o.op = .call { callee := .builtin .append, args := #[s, x], argTypes := #[t, t] })
    (ht : P.underlying t = some (.slice e)) (hinfo : (P.info? e).map (fun i => (i.zero, i.size, i.bytes)) = some (some z, size, bytes)) (hzs : z.cells.size = size) (hsz : 0 < size) (hb0 : 0 < bytes)
    (v : Value) (n : Nat) (xs : List Value) (A : Option Addr) (m c : Nat) (news : List Value) (hs : a.eval s = v) (hx : a.eval x = .slice A m c)
    (HO : W.ownsRow base e size v n xs) (hnl : news.length = m * size) (hA : 0 < m → ∃ ad, A = some ad ∧ ∀ j u, news[j]? = some u → W.cell? (ad.add j) = some u) (h1 : ∀ u ∈ news, u.oneCell' = true)
    (HB : Below base w0 W) (hbase : base ≤ W.heap.size) (hl : (n + m) * bytes ≤ 140737488355328)
    (h : ∀ v1 w1, w1.ownsRow base e size v1 (n + m) (xs ++ news) → Below base w0 w1 → W.grownBy w1 v.ownBlock → (v1.ownBlock = v.ownBlock ∨ v1.ownBlock = some W.heap.size) → wpList P ops Q rest (a.put o.dst v1) w1) :
    wpList P ops Q (o :: rest) a W := by
  obtain ⟨i0, hi, hzz⟩ := Option.map_eq_some_iff.1 hinfo
  simp only [Prod.mk.injEq] at hzz
  obtain ⟨hz0, hz1, hz2⟩ := hzz
  have hlen : n + m ≤ 140737488355328 := Nat.le_trans (Nat.le_mul_of_pos_right _ hb0) hl
  have hbk : ∀ k, v.ownBlock = some k → base ≤ k := fun k hk => (HO.lt k hk).1
  have hrun : ∃ v1 w1, (Builtin.append_ #[t, t] o.type #[v, .slice A m c]).run P W = .ok v1 w1 ∧ w1.ownsRow base e size v1 (n + m) (xs ++ news) ∧ W.grownBy w1 v.ownBlock ∧ (v1.ownBlock = v.ownBlock ∨ v1.ownBlock = some W.heap.size) := by
    rcases A with _ | ad
    · have h0 : m = 0 := by
        rcases Nat.eq_zero_or_pos m with h0 | h0
        · exact h0
        · obtain ⟨ad, h, _⟩ := hA h0
          cases h
      subst h0
      obtain rfl : news = [] := List.eq_nil_of_length_eq_zero (by simpa using hnl)
      refine ⟨v, W, ?_, by simpa using HO, ⟨rfl, rfl, rfl, Nat.le_refl _, fun _ _ _ => rfl⟩, .inl rfl⟩
      rcases HO.2 with ⟨rfl, hn⟩ | ⟨g, cap, cur, rfl, _, _, hnc, _⟩
      · simp [Builtin.append_, run_underlying ht, sizeOf, typeInfo, hi, Builtin.lenOf, Builtin.firstCells]
      · simp [Builtin.append_, run_underlying ht, sizeOf, typeInfo, hi, Builtin.lenOf, Builtin.firstCells, hnc, storeCells]
    · have hcells : ∀ j u, news[j]? = some u → W.cell? (ad.add j) = some u := by
        intro j u hu
        have hj : 0 < m := by
          rcases Nat.eq_zero_or_pos m with h | h
          · subst h
            have : news = [] := List.eq_nil_of_length_eq_zero (by simpa using hnl)
            subst this
            simp at hu
          · exact h
        obtain ⟨ad', h', hc⟩ := hA hj
        injection h' with h'
        subst h'
        exact hc j u hu
      obtain ⟨v1, w1, hr, h2, h3, _, h5⟩ := run_append_own_at (P := P) W base t o.type e i0 z size bytes ht hi hz0 hz1 hz2 hzs hsz v n xs HO ad m c news hnl hcells h1 (by simp only [maxLen]; omega) hl hbase
      exact ⟨v1, w1, hr, h2, h3, h5⟩
  obtain ⟨v1, w1, hr, hown, hg, hat⟩ := hrun
  refine wpList_plain hgd fun K hK => ?_
  unfold Oper.wp execOp
  simp only [ho, resolve, invoke, builtin, Sem.run_bind, Sem.run_pure, Result.andThen_ok, List.map_toArray, List.map_cons, List.map_nil, hs, hx, hr]
  exact hK _ _ (h v1 w1 hown (HB.grown hg hbase hbk) hg hat)

end
/-- append of bytes to bytes. -/
theorem wpl_app8 {ops : Array Oper} {rest : List Oper} {o : Oper} {a : Act} {Q : Exit → Act → World → Prop} {w0 W : World} (base : Nat) (hgd : o.guard = none) (s x : Operand)
    (ho : o.op = .call { callee := .builtin .append, args := #[s, x], argTypes := #[27, 27] })
    (A1 : Option Addr) (n c1 : Nat) (xs : List UInt8) (A : Option Addr) (m c : Nat) (ys : List UInt8) (hs : a.eval s = .slice A1 n c1) (hx : a.eval x = .slice A m c)
    (HO : Ow W base A1 n c1 xs) (HR : Bs W A m c ys) (HB : Below base w0 W) (hbase : base ≤ W.heap.size) (hl : n + m ≤ 140737488355328)
    (h : ∀ A2 c2 w1, Ow w1 base A2 (n + m) c2 (xs ++ ys) → Below base w0 w1 → W.grownBy w1 (Value.slice A1 n c1).ownBlock → ((Value.slice A2 (n + m) c2).ownBlock = (Value.slice A1 n c1).ownBlock ∨ (Value.slice A2 (n + m) c2).ownBlock = some W.heap.size) → wpList Tryd.prog ops Q rest (a.put o.dst (.slice A2 (n + m) c2)) w1) :
    wpList Tryd.prog ops Q (o :: rest) a W := by
  refine wpl_append base hgd s x 27 5 (.int .u8 0) 1 1 ho Tryd.underlying27 info8 rfl (by omega) (by omega) _ n (u8v xs) A m c (u8v ys) hs hx HO.row (by rw [u8v_length, HR.len]; omega) ?_ (u8v_one ys) HB hbase (by omega) ?_
  · intro hm
    obtain ⟨ad, e, hc⟩ := HR.cells hm
    refine ⟨ad, e, fun j u hu => ?_⟩
    have hj : j < ys.length := by
      rcases Nat.lt_or_ge j ys.length with h | h
      · exact h
      · simp [u8v, List.getElem?_eq_none h] at hu
    rw [u8v_get ys j hj] at hu
    injection hu with hu
    subst hu
    exact hc j (by rw [← HR.len]; exact hj)
  · intro v1 w1 hown hB hg hat
    rw [← u8v_append] at hown
    obtain ⟨A2, c2, rfl, hO⟩ := Ow.of_row hown hl
    exact h A2 c2 w1 hO hB hg hat

/-- The same, its end told in numbers of one's own. -/
theorem wpl_a8 {ops : Array Oper} {rest : List Oper} {o : Oper} {a : Act} {Q : Exit → Act → World → Prop} {w0 W : World} (base : Nat) (hgd : o.guard = none) (s x : Operand)
    (ho : o.op = .call { callee := .builtin .append, args := #[s, x], argTypes := #[27, 27] })
    (A1 : Option Addr) (n c1 : Nat) (xs : List UInt8) (A : Option Addr) (m c : Nat) (ys : List UInt8) (N : Nat) (zs : List UInt8) (hs : a.eval s = .slice A1 n c1) (hx : a.eval x = .slice A m c)
    (HO : Ow W base A1 n c1 xs) (HR : Bs W A m c ys) (HB : Below base w0 W) (hbase : base ≤ W.heap.size) (hN : n + m = N) (hl : N ≤ 140737488355328) (hz : xs ++ ys = zs)
    (h : ∀ A2 c2 w1, Aside0 (Ow w1 base A2 N c2 zs) → Aside0 (Below base w0 w1) → wpList Tryd.prog ops Q rest (a.put o.dst (.slice A2 N c2)) w1) :
    wpList Tryd.prog ops Q (o :: rest) a W := by
  subst hN
  subst hz
  exact wpl_app8 base hgd s x ho A1 n c1 xs A m c ys hs hx HO HR HB hbase hl fun A2 c2 w1 hO hB _ _ => h A2 c2 w1 ⟨hO⟩ ⟨hB⟩

/-! string(b) -/
def strB (xs : List UInt8) : ByteArray := ⟨xs.toArray⟩
theorem strB_list (xs : List UInt8) : (strB xs).toList = xs := by rw [ByteArray.toList_eq]; rfl
theorem strB_of (xs : List UInt8) : strOfNums (xs.map fun x => (x.toNat : Int)) = strB xs := by
  unfold strOfNums strB
  congr 2
  rw [List.map_map]
  exact (List.map_congr_left (fun x _ => by simp)).trans (List.map_id _)
theorem conv8 {w : World} {A : Option Addr} {n c : Nat} {xs : List UInt8} (h : Bs w A n c xs) : (convert 27 9 (.slice A n c)).run Tryd.prog w = .ok (.string (strB xs)) w := by
  have hn := h.len
  rcases A with _ | ad
  · have h0 : n = 0 := by
      rcases Nat.eq_zero_or_pos n with h0 | h0
      · exact h0
      · obtain ⟨ad, h', _⟩ := h.cells h0
        cases h'
    subst h0
    obtain rfl : xs = [] := List.eq_nil_of_length_eq_zero hn
    exact run_convert_bytes_nil w 27 5 Tryd.underlying27 Tryd.underlying5 0 c 9 Tryd.underlying9
  · have hl : (loadCells ad n).run Tryd.prog w = .ok (u8v xs).toArray w := by
      have := run_loadCells_list (P := Tryd.prog) w ad (u8v xs) (fun j v hj => by
        have hjl : j < xs.length := by
          rcases Nat.lt_or_ge j xs.length with h' | h'
          · exact h'
          · rw [List.getElem?_eq_none (by rw [u8v_length]; exact h')] at hj
            cases hj
        rw [u8v_get xs j hjl] at hj
        injection hj with hj
        subst hj
        obtain ⟨ad', he', hc⟩ := h.cells (by omega)
        injection he' with he'
        subst he'
        exact hc j (by omega))
      rwa [u8v_length, hn] at this
    have hu : u8v xs = (xs.map fun x => (x.toNat : Int)).map (Value.int .u8) := by simp [u8v]
    rw [hu] at hl
    rw [run_convert_bytes_string w 27 9 5 _ n c Tryd.underlying27 Tryd.underlying5 Tryd.underlying9, run_bytesToString w ad n c _ hl, ← strB_of, foldl_push_bytes]
    simp [strOfNums, ByteArray.empty, ByteArray.emptyWithCapacity]
    rfl

/-! append(v, y): one element of one cell -/
theorem wpl_app1 {P : Program} {ops : Array Oper} {rest : List Oper} {o : Oper} {a : Act} {Q : Exit → Act → World → Prop} {w0 W : World} (base : Nat) (hgd : o.guard = none) (s x : Operand) (t e : TypeId) (z : Value) (bytes : Nat)
    (ho : o.op = .call { callee := .builtin .append, args := #[s, x], argTypes := #[t, t] })
    (ht : P.underlying t = some (.slice e)) (hinfo : (P.info? e).map (fun i => (i.zero, i.size, i.bytes)) = some (some z, 1, bytes)) (hzs : z.cells.size = 1) (hb0 : 0 < bytes)
    (v : Value) (n : Nat) (xs : List Value) (y : Value) (hs : a.eval s = v) (hx : a.eval x = .slice (some ⟨W.heap.size, 0, none⟩) 1 1) (hy : y.oneCell' = true)
    (HO : W.ownsRow base e 1 v n xs) (HB : Below base w0 W) (hbase : base ≤ W.heap.size) (hl : (n + 1) * bytes ≤ 140737488355328)
    (h : ∀ v1 w1, w1.ownsRow base e 1 v1 (n + 1) (xs ++ [y]) → Below base w0 w1 → W.grownBy w1 v.ownBlock → (v1.ownBlock = v.ownBlock ∨ v1.ownBlock = some (W.heap.size + 1)) → wpList P ops Q rest (a.put o.dst v1) w1) :
    wpList P ops Q (o :: rest) a (W.alloc (.cells #[y] e)) := by
  refine wpl_append (w0 := w0) base hgd s x t e z 1 bytes ho ht hinfo hzs (by omega) hb0 v n xs (some ⟨W.heap.size, 0, none⟩) 1 1 [y] hs hx (HO.alloc _) rfl ?_ (by simpa using hy) (HB.alloc hbase _) (by simp; omega) hl ?_
  · intro _
    refine ⟨_, rfl, fun j u hu => ?_⟩
    have hj : j = 0 := by
      rcases Nat.eq_zero_or_pos j with h | h
      · exact h
      · simp [List.getElem?_eq_none (show [y].length ≤ j from h)] at hu
    subst hj
    simp at hu
    subst hu
    rw [add_plain, cell_of_row _ _ _ _ _ _ (heap_alloc_new W _)]
    rfl
  · intro v1 w1 hown hB hg hat
    refine h v1 w1 hown hB ?_ ?_
    · exact ⟨hg.os, hg.tape, hg.output, by have := hg.size; simp at this; omega, fun k hk hne => (hg.block k (by simp; omega) hne).trans (Below.heap_alloc _ _ _ hk)⟩
    · simpa using hat

/-! A slice of bools that the call itself made -/
def blv (l : List Bool) : List Value := l.map Value.bool
theorem blv_length (l : List Bool) : (blv l).length = l.length := by simp [blv]
theorem blv_append (l m : List Bool) : blv (l ++ m) = blv l ++ blv m := by simp [blv]
structure Obl (w : World) (base : Nat) (A : Option Addr) (n c : Nat) (l : List Bool) : Prop where
  row : w.ownsRow base 4 1 (.slice A n c) n (blv l)
  lim : n ≤ 140737488355328
theorem Obl.len {w : World} {base n c : Nat} {A : Option Addr} {l : List Bool} (h : Obl w base A n c l) : l.length = n := by
  have := h.row.1; rw [blv_length] at this; omega
theorem Obl.kept {w w1 : World} {base n c : Nat} {A : Option Addr} {l : List Bool} (h : Obl w base A n c l) (hb : ∀ g, A = some ⟨g, 0, none⟩ → g < w.heap.size → w1.heap[g]? = w.heap[g]?) : Obl w1 base A n c l := by
  refine ⟨⟨h.row.1, ?_⟩, h.lim⟩
  rcases h.row.2 with hn | ⟨g, cap, cur, hv, hg, hh, rest⟩
  · exact .inl hn
  · refine .inr ⟨g, cap, cur, hv, hg, ?_, rest⟩
    injection hv with h1 _ _
    rw [hb g h1 (Array.getElem?_eq_some_iff.1 hh).1]
    exact hh
theorem Obl.below {w w1 : World} {base n c : Nat} {A : Option Addr} {l : List Bool} (h : Obl w base A n c l) (hb : Below w.heap.size w w1) : Obl w1 base A n c l :=
  h.kept fun g _ hg => hb.block g hg
theorem Obl.alloc {w : World} {base n c : Nat} {A : Option Addr} {l : List Bool} (h : Obl w base A n c l) (o : Obj) : Obl (w.alloc o) base A n c l := h.below ((Below.refl _ _).alloc (Nat.le_refl _) o)
theorem Obl.nil (w : World) (base : Nat) : Obl w base none 0 0 [] := ⟨World.ownsRow_nil _ _ _ _, by omega⟩
theorem Obl.cap {w : World} {base n c : Nat} {A : Option Addr} {l : List Bool} (h : Obl w base A n c l) : n ≤ c ∧ c ≤ 9223372036854775807 := by
  rcases h.row.2 with ⟨hv, hn⟩ | ⟨g, cap, cur, hv, hg, hh, h1, h2, _⟩
  · injection hv with h1 h2 h3
    omega
  · injection hv with _ _ h3
    simp only [maxLen] at h2
    omega
/-- Where its cells are, what they hold, and that they may be written. -/
theorem Obl.at_ {w : World} {base n c : Nat} {A : Option Addr} {l : List Bool} (h : Obl w base A n c l) (j : Nat) (hj : j < n) :
    ∃ g, A = some ⟨g, 0, none⟩ ∧ base ≤ g ∧ g < w.heap.size ∧ w.cell? ⟨g, j, none⟩ = some (.bool (l.getD j false)) ∧ w.frozen? ⟨g, j, none⟩ = false := by
  have hl := h.len
  rcases h.row.2 with ⟨hv, hn⟩ | ⟨g, cap, cur, hv, hg, hh, _⟩
  · omega
  · injection hv with h1 _ _
    refine ⟨g, h1, hg, (Array.getElem?_eq_some_iff.1 hh).1, ?_, by simp [World.frozen?, hh]⟩
    have hc := h.row.cells (g := g) (by rw [h1]; rfl) j (.bool (l.getD j false)) (by simp [blv, List.getElem?_eq_getElem (show j < l.length by omega), List.getD_eq_getElem?_getD])
    rwa [add_plain] at hc
theorem Obl.store {w : World} {base g n c : Nat} {l : List Bool} (h : Obl w base (some ⟨g, 0, none⟩) n c l) (j : Nat) (x : Bool) :
    Obl (w.setCell ⟨g, j, none⟩ (.bool x)) base (some ⟨g, 0, none⟩) n c (l.set j x) := by
  have hs := (h.row.stored j (.bool x)).1
  have he : (blv l).set j (.bool x) = blv (l.set j x) := by simp [blv, List.map_set]
  rw [he] at hs
  exact ⟨hs, h.lim⟩
theorem infoB : (Tryd.prog.info? 4).map (fun i => (i.zero, i.size, i.bytes)) = some (some (.bool false), 1, 1) := by kernel_rfl
theorem wpl_appb {ops : Array Oper} {rest : List Oper} {o : Oper} {a : Act} {Q : Exit → Act → World → Prop} {w0 W : World} (base : Nat) (hgd : o.guard = none) (s x : Operand)
    (ho : o.op = .call { callee := .builtin .append, args := #[s, x], argTypes := #[69, 69] })
    (A1 : Option Addr) (n c1 : Nat) (l : List Bool) (y : Bool) (hs : a.eval s = .slice A1 n c1) (hx : a.eval x = .slice (some ⟨W.heap.size, 0, none⟩) 1 1)
    (HO : Obl W base A1 n c1 l) (HB : Below base w0 W) (hbase : base ≤ W.heap.size) (hl : n + 1 ≤ 140737488355328)
    (h : ∀ A2 c2 w1, Obl w1 base A2 (n + 1) c2 (l ++ [y]) → Below base w0 w1 → wpList Tryd.prog ops Q rest (a.put o.dst (.slice A2 (n + 1) c2)) w1) :
    wpList Tryd.prog ops Q (o :: rest) a (W.alloc (.cells #[.bool y] 4)) := by
  refine wpl_app1 (w0 := w0) base hgd s x 69 4 (.bool false) 1 ho Tryd.underlying69 infoB rfl (by omega) _ n (blv l) (.bool y) hs hx rfl HO.row HB hbase (by omega) ?_
  intro v1 w1 hown hB _ _
  obtain ⟨A2, c2, rfl⟩ := own_form hown
  exact h A2 c2 w1 ⟨by rw [blv_append]; exact hown, hl⟩ hB

end Go.Proofs.YtagfljmjdkoehaaDoor

set_option linter.unusedVariables false
set_option linter.unusedSimpArgs false
namespace Go.Proofs.YtagfljmjdkoehaaDoor
open Go.RowKit
theorem tba0 : bits .and .u32 0 1 = 0 := by decide
theorem tba1 : bits .and .u32 1 1 = 1 := by decide
theorem tba2 : bits .and .u32 2 1 = 0 := by decide
theorem tba3 : bits .and .u32 3 1 = 1 := by decide
theorem tba4 : bits .and .u32 4 1 = 0 := by decide
theorem tba5 : bits .and .u32 5 1 = 1 := by decide
theorem tba6 : bits .and .u32 6 1 = 0 := by decide
theorem tba7 : bits .and .u32 7 1 = 1 := by decide
theorem tba8 : bits .and .u32 8 1 = 0 := by decide
theorem tba9 : bits .and .u32 9 1 = 1 := by decide
theorem tba10 : bits .and .u32 10 1 = 0 := by decide
theorem tba11 : bits .and .u32 11 1 = 1 := by decide
theorem tba12 : bits .and .u32 12 1 = 0 := by decide
theorem tba13 : bits .and .u32 13 1 = 1 := by decide
theorem tba14 : bits .and .u32 14 1 = 0 := by decide
theorem tba15 : bits .and .u32 15 1 = 1 := by decide
theorem tba16 : bits .and .u32 549293790 1 = 0 := by decide
theorem tba17 : bits .and .u32 549293791 1 = 1 := by decide
theorem tba18 : bits .and .u32 1098587580 1 = 0 := by decide
theorem tba19 : bits .and .u32 1098587581 1 = 1 := by decide
theorem tba20 : bits .and .u32 1098587582 1 = 0 := by decide
theorem tba21 : bits .and .u32 1098587583 1 = 1 := by decide
theorem tba22 : bits .and .u32 1640403810 1 = 0 := by decide
theorem tba23 : bits .and .u32 1640403811 1 = 1 := by decide
theorem tba24 : bits .and .u32 2197175160 0 = 0 := by decide
theorem tba25 : bits .and .u32 2197175160 1 = 0 := by decide
theorem tba26 : bits .and .u32 2197175160 4294967295 = 2197175160 := by decide
theorem tba27 : bits .and .u32 2197175161 1 = 1 := by decide
theorem tba28 : bits .and .u32 2197175162 1 = 0 := by decide
theorem tba29 : bits .and .u32 2197175163 1 = 1 := by decide
theorem tba30 : bits .and .u32 2197175164 1 = 0 := by decide
theorem tba31 : bits .and .u32 2197175165 1 = 1 := by decide
theorem tba32 : bits .and .u32 2197175166 1 = 0 := by decide
theorem tba33 : bits .and .u32 2197175167 1 = 1 := by decide
theorem tba34 : bits .and .u32 2722870694 1 = 0 := by decide
theorem tba35 : bits .and .u32 2722870695 1 = 1 := by decide
theorem tba36 : bits .and .u32 3280807620 1 = 0 := by decide
theorem tba37 : bits .and .u32 3280807621 1 = 1 := by decide
theorem tba38 : bits .and .u32 3280807622 1 = 0 := by decide
theorem tba39 : bits .and .u32 3280807623 1 = 1 := by decide
theorem tba40 : bits .and .u32 3811616794 1 = 0 := by decide
theorem tba41 : bits .and .u32 3811616795 1 = 1 := by decide
theorem tbx0 : bits .xor .u32 0 0 = 0 := by decide
theorem tbx1 : bits .xor .u32 0 2197175160 = 2197175160 := by decide
theorem tbx2 : bits .xor .u32 1 0 = 1 := by decide
theorem tbx3 : bits .xor .u32 1 2197175160 = 2197175161 := by decide
theorem tbx4 : bits .xor .u32 2 0 = 2 := by decide
theorem tbx5 : bits .xor .u32 2 2197175160 = 2197175162 := by decide
theorem tbx6 : bits .xor .u32 3 0 = 3 := by decide
theorem tbx7 : bits .xor .u32 3 2197175160 = 2197175163 := by decide
theorem tbx8 : bits .xor .u32 4 0 = 4 := by decide
theorem tbx9 : bits .xor .u32 4 2197175160 = 2197175164 := by decide
theorem tbx10 : bits .xor .u32 5 0 = 5 := by decide
theorem tbx11 : bits .xor .u32 5 2197175160 = 2197175165 := by decide
theorem tbx12 : bits .xor .u32 6 0 = 6 := by decide
theorem tbx13 : bits .xor .u32 6 2197175160 = 2197175166 := by decide
theorem tbx14 : bits .xor .u32 7 0 = 7 := by decide
theorem tbx15 : bits .xor .u32 7 2197175160 = 2197175167 := by decide
theorem tbx16 : bits .xor .u32 274646895 0 = 274646895 := by decide
theorem tbx17 : bits .xor .u32 274646895 2197175160 = 2460548119 := by decide
theorem tbx18 : bits .xor .u32 549293790 0 = 549293790 := by decide
theorem tbx19 : bits .xor .u32 549293790 2197175160 = 2722870694 := by decide
theorem tbx20 : bits .xor .u32 549293791 0 = 549293791 := by decide
theorem tbx21 : bits .xor .u32 549293791 2197175160 = 2722870695 := by decide
theorem tbx22 : bits .xor .u32 820201905 0 = 820201905 := by decide
theorem tbx23 : bits .xor .u32 820201905 2197175160 = 2987750089 := by decide
theorem tbx24 : bits .xor .u32 1098587580 0 = 1098587580 := by decide
theorem tbx25 : bits .xor .u32 1098587580 2197175160 = 3280807620 := by decide
theorem tbx26 : bits .xor .u32 1098587581 0 = 1098587581 := by decide
theorem tbx27 : bits .xor .u32 1098587581 2197175160 = 3280807621 := by decide
theorem tbx28 : bits .xor .u32 1098587582 0 = 1098587582 := by decide
theorem tbx29 : bits .xor .u32 1098587582 2197175160 = 3280807622 := by decide
theorem tbx30 : bits .xor .u32 1098587583 0 = 1098587583 := by decide
theorem tbx31 : bits .xor .u32 1098587583 2197175160 = 3280807623 := by decide
theorem tbx32 : bits .xor .u32 1361435347 0 = 1361435347 := by decide
theorem tbx33 : bits .xor .u32 1361435347 2197175160 = 3553878443 := by decide
theorem tbx34 : bits .xor .u32 1640403810 0 = 1640403810 := by decide
theorem tbx35 : bits .xor .u32 1640403810 2197175160 = 3811616794 := by decide
theorem tbx36 : bits .xor .u32 1640403811 0 = 1640403811 := by decide
theorem tbx37 : bits .xor .u32 1640403811 2197175160 = 3811616795 := by decide
theorem tbx38 : bits .xor .u32 1905808397 0 = 1905808397 := by decide
theorem tbx39 : bits .xor .u32 1905808397 2197175160 = 4084100981 := by decide
attribute [local go_sem] tba0 tba1 tba2 tba3 tba4 tba5 tba6 tba7 tba8 tba9 tba10 tba11 tba12 tba13 tba14 tba15 tba16 tba17 tba18 tba19 tba20 tba21 tba22 tba23 tba24 tba25 tba26 tba27 tba28 tba29 tba30 tba31 tba32 tba33 tba34 tba35 tba36 tba37 tba38 tba39 tba40 tba41 tbx0 tbx1 tbx2 tbx3 tbx4 tbx5 tbx6 tbx7 tbx8 tbx9 tbx10 tbx11 tbx12 tbx13 tbx14 tbx15 tbx16 tbx17 tbx18 tbx19 tbx20 tbx21 tbx22 tbx23 tbx24 tbx25 tbx26 tbx27 tbx28 tbx29 tbx30 tbx31 tbx32 tbx33 tbx34 tbx35 tbx36 tbx37 tbx38 tbx39

/-- The table, as its bytes stand. -/
def tabL : List Int := [0, 274646895, 549293790, 820201905, 1098587580, 1361435347, 1640403810, 1905808397, 2197175160, 2460548119, 2722870694, 2987750089, 3280807620, 3553878443, 3811616794, 4084100981]
def tab (i : Int) : Int := tabL.getD i.toNat 0
end Go.Proofs.YtagfljmjdkoehaaDoor

set_option linter.unusedVariables false
set_option linter.unusedSimpArgs false
namespace Go.Proofs.YtagfljmjdkoehaaDoor
open Go.RowKit

theorem bits32_range (op : BinOp) (a b : Int) : 0 ≤ bits op .u32 a b ∧ bits op .u32 a b ≤ 4294967295 := by
  unfold bits
  simp only [IntKind.wrap_u32]
  omega
theorem and15_range (x : Int) : 0 ≤ bits .and .u32 x 15 ∧ bits .and .u32 x 15 < 16 := by
  have h : bits .and .u32 x 15 = (((BitVec.ofInt 32 x) &&& (BitVec.ofInt 32 15)).toNat : Int) % 4294967296 := by
    unfold bits
    simp only [IntKind.wrap_u32]
    rfl
  rw [h, BitVec.toNat_and]
  have h15 : (BitVec.ofInt 32 15).toNat = 15 := by decide
  rw [h15]
  have := @Nat.and_le_right ((BitVec.ofInt 32 x).toNat) 15
  omega

def nib (c x : Int) : Int := bits .xor .u32 (c / 16) (tab (bits .and .u32 (bits .xor .u32 c x) 15))
def byt (c x : Int) : Int := nib (nib c x) (x / 16)
def updL (c : Int) : List UInt8 → Int
  | [] => c
  | x :: xs => updL (byt c (x.toNat : Int)) xs
theorem updL_snoc (c : Int) (xs : List UInt8) (x : UInt8) : updL c (xs ++ [x]) = byt (updL c xs) (x.toNat : Int) := by
  induction xs generalizing c with
  | nil => rfl
  | cons y ys ih => simp only [List.cons_append, updL]; exact ih _
theorem updL_take (c : Int) (xs : List UInt8) (j : Nat) (h : j < xs.length) : updL c (xs.take (j + 1)) = byt (updL c (xs.take j)) (b8 xs j) := by
  rw [List.take_succ_eq_append_getElem h, updL_snoc]
  simp [b8, List.getD_eq_getElem?_getD, List.getElem?_eq_getElem h]
/-- What Update tells. -/
def updI (s : Int) (xs : List UInt8) : Int := bits .xor .u32 4294967295 (updL (bits .xor .u32 4294967295 s) xs)

theorem tab_cells (w : World) (T : TypeId) (i : Int) (h0 : 0 ≤ i) (h1 : i < 16) : (w.alloc (.cells #[.int .u32 0, .int .u32 274646895, .int .u32 549293790, .int .u32 820201905, .int .u32 1098587580, .int .u32 1361435347, .int .u32 1640403810, .int .u32 1905808397, .int .u32 2197175160, .int .u32 2460548119, .int .u32 2722870694, .int .u32 2987750089, .int .u32 3280807620, .int .u32 3553878443, .int .u32 3811616794, .int .u32 4084100981] T)).cell? ⟨w.heap.size, i.toNat, none⟩ = some (.int .u32 (tab i)) := by
  obtain ⟨k, rfl⟩ := Int.eq_ofNat_of_zero_le h0
  have hk : k < 16 := by omega
  simp only [World.cell?, heap_alloc_new]
  rcases k with _|_|_|_|_|_|_|_|_|_|_|_|_|_|_|_|k <;> first | rfl | omega

theorem max32 : IntKind.u32.max = 4294967295 := by decide
attribute [local go_sem] max32

end Go.Proofs.YtagfljmjdkoehaaDoor

set_option linter.unusedVariables false
set_option linter.unusedSimpArgs false
namespace Go.Proofs.YtagfljmjdkoehaaDoor
open Go.RowKit

set_option maxHeartbeats 1000000 in
theorem clone8_any (A : Option Addr) (n c : Nat) (xs : List UInt8) (w : World) (hb : Bs w A n c xs) :
    Calls Tryd.prog 28 #[.slice A n c] w fun e w' => ∃ A' c', e = .returned (.slice A' n c') ∧ Ow w' w.heap.size A' n c' xs ∧ Below w.heap.size w w' := by
  have hlim := hb.lim
  have hnil := fun W => Lib.run_eql_slice_nil (P := Tryd.prog) W 27 5 A n c 0 0 Tryd.underlying27
  go_enter Tryd.func28, Tryd.ntmps28
  rcases A with _ | ad
  · have h0 : n = 0 := by
      rcases Nat.eq_zero_or_pos n with h | h
      · exact h
      · obtain ⟨ad, h, _⟩ := hb.cells h
        cases h
    subst h0
    obtain rfl : xs = [] := List.eq_nil_of_length_eq_zero hb.len
    go_wp2_with fail
    all_goals (go_ret; exact ⟨none, 0, rfl, Ow.nil _ _, Below.refl _ _⟩)
  · have HO : Ow (w.alloc (.cells #[] 5)) w.heap.size (some ⟨w.heap.size, 0, none⟩) 0 0 [] :=
      ⟨by simpa [u8v] using World.ownsRow_lit (base := w.heap.size) (e := 5) (size := 1) w #[] 0 (Nat.le_refl _) (by simp [maxLen]) (by simp), by omega⟩
    have HO' := Aside0.mk HO
    clear HO
    go_wp2_with (at_builtin; (refine wpl_app8 (w0 := w) w.heap.size rfl _ _ rfl _ 0 0 [] (some ad) n c xs rfl rfl HO'.out (hb.alloc _) ((Below.refl _ _).alloc (Nat.le_refl _) _) (by simp) (by omega) ?_); intro A2 c2 w1 hO hB hg hat)
    go_ret
    simp only [Nat.zero_add, List.nil_append] at hO ⊢
    exact ⟨A2, c2, rfl, hO, hB⟩

set_option maxHeartbeats 1000000 in
theorem equal8_any (A : Option Addr) (n c : Nat) (xs : List UInt8) (A' : Option Addr) (n' c' : Nat) (ys : List UInt8) (w : World) (hb : Bs w A n c xs) (hb' : Bs w A' n' c' ys) :
    Calls Tryd.prog 22 #[.slice A n c, .slice A' n' c'] w fun e w' => e = .returned (.bool (xs == ys)) ∧ w = w' := by
  have h1 := conv8 hb
  have h2 := conv8 hb'
  go_enter Tryd.func22, Tryd.ntmps22
  go_wp2
  go_ret
  exact ⟨ret_bool (by simp only [strB_list]), rfl⟩

theorem getD_b8 {xs ys : List UInt8} {j : Nat} (h : b8 xs j = b8 ys j) (h1 : j < xs.length) (h2 : j < ys.length) : xs[j] = ys[j] := by
  simp only [b8, List.getD_eq_getElem?_getD, List.getElem?_eq_getElem h1, List.getElem?_eq_getElem h2, Option.getD_some] at h
  exact UInt8.toNat_inj.mp (by omega)
theorem beq_false_of_b8 {xs ys : List UInt8} {j : Nat} (h : b8 xs j ≠ b8 ys j) : (xs == ys) = false := by
  rw [beq_eq_false_iff_ne]
  rintro rfl
  exact h rfl

end Go.Proofs.YtagfljmjdkoehaaDoor

set_option linter.unusedVariables false
set_option linter.unusedSimpArgs false
namespace Go.Proofs.YtagfljmjdkoehaaDoor
open Go.RowKit

/-- A world in which everything that was there is as it was. -/
def Ext (w : World) : Type := { x : World // Below w.heap.size w x }
instance (w : World) : Nonempty (Ext w) := ⟨⟨w, Below.refl _ _⟩⟩
def Ext.w {w : World} (k : Ext w) : World := k.1
theorem Ext.bel {w : World} (k : Ext w) : Below w.heap.size w k.w := k.2
theorem Bs.ext {w : World} {A : Option Addr} {n c : Nat} {xs : List UInt8} (h : Bs w A n c xs) (k : Ext w) : Bs k.w A n c xs := h.below k.bel
theorem cell_ext {w : World} {a : Addr} {v : Value} (h : w.cell? a = some v) : ∀ k : Ext w, k.w.cell? a = some v := fun k => cell_below k.bel h
theorem wp_region_ext {P : Program} {id : Nat} {Q : Exit → Act → World → Prop} {a : Act} {w : World} {l : List Oper} (hm : P.follows .mixedOrders = true) (hB : Region.lexB .any l.toArray = true)
    (h : wpQuiet P l.toArray (fun w' => ∃ k : Ext w, w' = k.w) (fun a' => ∀ w', (∃ k : Ext w, w' = k.w) → Q .normal a' w') l a) : (Code.region id l.toArray true).wp P Q a w :=
  wp_region_quiet (C := fun w' => ∃ k : Ext w, w' = k.w) hm hB ⟨⟨w.drew, below_drew (Below.refl _ _)⟩, rfl⟩ (by simpa using h)
theorem Calls.ext_of {P : Program} {f : FuncId} {args : Array Value} {w : World} {k : Ext w} {v : Value} (h : Calls P f args k.w fun e w' => e = .returned v ∧ Below k.w.heap.size k.w w') :
    Calls P f args k.w fun e w'' => e = .returned v ∧ ∃ k' : Ext w, w'' = k'.w :=
  h.mono fun _ w' ⟨he, hb⟩ => ⟨he, ⟨w', below_then k.bel k.bel.size hb⟩, rfl⟩
theorem Calls.ext_same {P : Program} {f : FuncId} {args : Array Value} {w : World} {k : Ext w} {v : Value} (h : Calls P f args k.w fun e w' => e = .returned v ∧ k.w = w') :
    Calls P f args k.w fun e w'' => e = .returned v ∧ ∃ k' : Ext w, w'' = k'.w :=
  h.mono fun _ w' ⟨he, hb⟩ => ⟨he, k, hb.symm⟩
theorem Calls.ext_drew {P : Program} {f : FuncId} {args : Array Value} {w : World} {k : Ext w} {v : Value} (h : Calls P f args k.w fun e w' => e = .returned v ∧ ∃ m, w' = k.w.drewN m) :
    Calls P f args k.w fun e w'' => e = .returned v ∧ ∃ k' : Ext w, w'' = k'.w :=
  h.mono fun _ w' ⟨he, m, hb⟩ => ⟨he, ⟨w', by rw [hb]; exact below_drawn k.bel m⟩, rfl⟩

end Go.Proofs.YtagfljmjdkoehaaDoor

set_option linter.unusedVariables false
set_option linter.unusedSimpArgs false
namespace Go.Proofs.YtagfljmjdkoehaaDoor
open Go.RowKit

section
variable {P : Program} {ops : Array Oper} {Q : Exit → Act → World → Prop} {md : Region.Mode} {S : World → Prop} {p : Nat → Bool}
/-- Whatever order is picked from here on; S holds behind every operation of the choice. -/
def wpAnyM (P : Program) (md : Region.Mode) (ops : Array Oper) (Q : Exit → Act → World → Prop) (S : World → Prop) (p : Nat → Bool) : Nat → Array Bool → Act → World → Prop
  | 0, listed, a, w => Region.ready md ops listed = [] ∧ Q .normal a w
  | fuel + 1, listed, a, w =>
    (Region.ready md ops listed = [] → Q .normal a w) ∧
    ∀ i ∈ Region.ready md ops listed, wpOp P ops Q i (fun a' w' => (p i = true → S w') ∧ wpAnyM P md ops Q S p fuel (listed.setIfInBounds i true) a' w') a w
theorem wpAny_of_heldM : ∀ (fuel : Nat) (listed : Array Bool) (a : Act) (w : World), wpAnyM P md ops Q S p fuel listed a w → wpAny P md ops Q fuel listed a w
  | 0, _, _, _, h => h
  | fuel + 1, _, _, _, h => ⟨h.1, fun i hi => wpOp_mono (fun a' w' h' => wpAny_of_heldM fuel _ a' w' h'.2) (h.2 i hi)⟩
/-- What waits, directly or through others, for operation i. -/
def waitD (md : Region.Mode) (ops : Array Oper) (listed : Array Bool) (i : Nat) : List Nat :=
  (List.range ops.size).foldl (fun D j => if (!listed.getD j true) && (match ops[j]? with | some o => o.after.any fun e => Region.binds md e && (e.on == i || D.contains e.on) | none => false) then j :: D else D) []
def waitB (md : Region.Mode) (ops : Array Oper) (listed : Array Bool) (i : Nat) (D : List Nat) (p : Nat → Bool) : Bool :=
  (D.all fun j => (!listed.getD j true) && (match ops[j]? with | some o => o.after.any fun e => Region.binds md e && (e.on == i || D.contains e.on) | none => false)) && (!listed.getD i true) &&
  ((List.range ops.size).all fun j => p j || j == i || listed.getD j true || D.contains j)
structure Waits (md : Region.Mode) (ops : Array Oper) (listed : Array Bool) (i : Nat) (D : List Nat) (p : Nat → Bool) : Prop where
  un : ∀ j ∈ D, listed.getD j true = false
  dep : ∀ j ∈ D, ∃ o, ops[j]? = some o ∧ ∃ e ∈ o.after, Region.binds md e = true ∧ (e.on = i ∨ e.on ∈ D)
  ui : listed.getD i true = false
  all : ∀ j o, ops[j]? = some o → listed.getD j true = false → j ≠ i → p j = true ∨ j ∈ D
theorem waits_of {listed : Array Bool} {i : Nat} {D : List Nat} (h : waitB md ops listed i D p = true) : Waits md ops listed i D p := by
  unfold waitB at h
  simp only [Bool.and_eq_true, List.all_eq_true, Bool.not_eq_true', List.mem_range] at h
  obtain ⟨⟨h1, h2⟩, h3⟩ := h
  refine ⟨fun j hj => (h1 j hj).1, fun j hj => ?_, h2, fun j o ho hu hne => ?_⟩
  · have := (h1 j hj).2
    split at this
    · rename_i o ho
      obtain ⟨e, he, hb⟩ := Array.any_eq_true'.1 this
      simp only [Bool.and_eq_true, Bool.or_eq_true, beq_iff_eq, List.contains_iff_mem] at hb
      exact ⟨o, ho, e, he, hb.1, hb.2⟩
    · cases this
  · have := h3 j (Array.getElem?_eq_some_iff.1 ho).1
    simp only [Bool.or_eq_true, beq_iff_eq, List.contains_iff_mem] at this
    rcases this with ((q | q) | q) | q
    · exact .inl q
    · exact absurd q hne
    · rw [hu] at q; cases q
    · exact .inr q
theorem getD_flip {listed : Array Bool} {i : Nat} (h : listed.getD i true = false) : listed.getD i false = false := by
  rcases Nat.lt_or_ge i listed.size with h' | h'
  · simp [h'] at h ⊢; exact h
  · simp [Array.getElem?_eq_none h'] at h
theorem Waits.not {listed : Array Bool} {i : Nat} {D : List Nat} (h : Waits md ops listed i D p) {j : Nat} (hj : j ∈ D) : j ∉ Region.ready md ops listed := fun hr => by
  obtain ⟨_, oj, hoj, hall⟩ := mem_ready.1 hr
  obtain ⟨o, ho, e, he, hb, hc⟩ := h.dep j hj
  have : o = oj := Option.some.inj (ho.symm.trans hoj)
  subst this
  have h2 := hall e he hb
  rcases hc with hc | hc
  · rw [hc, getD_flip h.ui] at h2; cases h2
  · rw [getD_flip (h.un _ hc)] at h2; cases h2
theorem Waits.set {listed : Array Bool} {i : Nat} {D : List Nat} (h : Waits md ops listed i D p) {j : Nat} (hr : j ∈ Region.ready md ops listed) (hji : j ≠ i) : Waits md ops (listed.setIfInBounds j true) i D p :=
  ⟨fun k hk => by rw [getD_set_ne true (show j ≠ k from fun e => h.not hk (by rw [← e]; exact hr))]; exact h.un k hk, h.dep, by rw [getD_set_ne true hji]; exact h.ui, fun k o ho hu hne => by
    by_cases e : j = k
    · subst e
      exact (h.all j o ho (mem_ready.1 hr).1 hji)
    · rw [getD_set_ne true e] at hu
      exact h.all k o ho hu hne⟩
theorem wpAnyM_first {i : Nat} {oi : Oper} {v : Value} {D : List Nat} (hi : ops[i]? = some oi) (hsel : ∀ (j : Nat) (o : Oper) cs b, ops[j]? = some o → o.op ≠ .select cs b)
    (hQ : ∀ c a w, Q (.panic c) (a.put oi.dst v) w → Q (.panic c) a w) :
    ∀ (fuel : Nat) (listed : Array Bool) (a : Act) (w : World), Waits md ops listed i D p →
      (∀ j oj, ops[j]? = some oj → j ≠ i → listed.getD j true = false → (∀ e ∈ oj.after, Region.binds md e = true → e.on ≠ i) → oi.apart ops oj = true) →
      i ∈ Region.ready md ops listed → YieldsIf P ops S oi v a → S w →
      wpAnyM P md ops Q S p fuel (listed.setIfInBounds i true) (a.put oi.dst v) w → wpAnyM P md ops Q S p (fuel + 1) listed a w := by
  intro fuel
  induction fuel with
  | zero =>
    intro listed a w _ _ hr hy hS H
    refine ⟨fun h => (by rw [h] at hr; cases hr), fun j hj => ?_⟩
    by_cases hji : j = i
    · subst hji; exact hy.wpOp hi hS ⟨fun _ => hS, H⟩
    · have := ready_mono hj hji
      rw [H.1] at this
      cases this
  | succ fuel ih =>
    intro listed a w hwt hfree hr hy hS H
    refine ⟨fun h => (by rw [h] at hr; cases hr), fun j hj => ?_⟩
    by_cases hji : j = i
    · subst hji; exact hy.wpOp hi hS ⟨fun _ => hS, H⟩
    · have h1 := H.2 j (ready_mono hj hji)
      obtain ⟨hjun, oj, hoj, hall⟩ := mem_ready.1 hj
      have hnot : ∀ e ∈ oj.after, Region.binds md e = true → e.on ≠ i := fun e he hb heq => by
        have h1 := hall e he hb
        have h0 := (mem_ready.1 hr).1
        rw [heq] at h1
        rcases Nat.lt_or_ge i listed.size with h' | h'
        · simp [h'] at h0 h1; rw [h0] at h1; cases h1
        · simp [Array.getElem?_eq_none h'] at h1
      have h2 := wpOp_putIf hoj (hfree j oj hoj hji hjun hnot) (fun cs b => hsel i oi cs b hi) (fun cs b => hsel j oj cs b hoj) hQ hy h1
      have hfree' : ∀ k ok, ops[k]? = some ok → k ≠ i → (listed.setIfInBounds j true).getD k true = false →
          (∀ e ∈ ok.after, Region.binds md e = true → e.on ≠ i) → oi.apart ops ok = true := fun k ok hk hki hun hno => by
        refine hfree k ok hk hki ?_ hno
        by_cases hjk : j = k
        · subst hjk; exact hjun
        · rw [getD_set_ne true hjk] at hun; exact hun
      have hpj : p j = true := (hwt.all j oj hoj hjun hji).resolve_right (fun q => hwt.not q hj)
      refine wpOp_mono (fun a' w' h3 => ⟨fun _ => h3.2.1 hpj, ih (listed.setIfInBounds j true) a' w' (hwt.set hj hji) hfree' (ready_mono hr (Ne.symm hji)) h3.1 (h3.2.1 hpj) ?_⟩) h2
      rw [Array.setIfInBounds_comm _ _ hji]
      exact h3.2.2
/-- Take number i first. -/
theorem wpAnyM_take {i : Nat} {oi : Oper} {v : Value} {fuel : Nat} {listed : Array Bool} {a : Act} {w : World} (hi : ops[i]? = some oi)
    (hs : Region.noSelect ops = true) (hf : Region.free md ops listed i = true) (hr : (Region.ready md ops listed).contains i = true) (hw : waitB md ops listed i (waitD md ops listed i) p = true)
    (hQ : ∀ c a w, Q (.panic c) (a.put oi.dst v) w → Q (.panic c) a w) (hy : YieldsIf P ops S oi v a) (hS : S w)
    (h : wpAnyM P md ops Q S p fuel (listed.setIfInBounds i true) (a.put oi.dst v) w) : wpAnyM P md ops Q S p (fuel + 1) listed a w :=
  wpAnyM_first hi (Region.noSelect_spec hs) hQ fuel listed a w (waits_of hw) (Region.free_spec hi hf) (by simpa using hr) hy hS h
theorem wpAnyM_first0 {i : Nat} {oi : Oper} {v : Value} (hi : ops[i]? = some oi) (hsel : ∀ (j : Nat) (o : Oper) cs b, ops[j]? = some o → o.op ≠ .select cs b)
    (hQ : ∀ c a w, Q (.panic c) (a.put oi.dst v) w → Q (.panic c) a w) (hp : p i = false) :
    ∀ (fuel : Nat) (listed : Array Bool) (a : Act) (w : World),
      (∀ j oj, ops[j]? = some oj → j ≠ i → listed.getD j true = false → (∀ e ∈ oj.after, Region.binds md e = true → e.on ≠ i) → oi.apart ops oj = true) →
      i ∈ Region.ready md ops listed → YieldsIf P ops (fun _ => True) oi v a →
      wpAnyM P md ops Q S p fuel (listed.setIfInBounds i true) (a.put oi.dst v) w → wpAnyM P md ops Q S p (fuel + 1) listed a w := by
  intro fuel
  induction fuel with
  | zero =>
    intro listed a w _ hr hy H
    refine ⟨fun h => (by rw [h] at hr; cases hr), fun j hj => ?_⟩
    by_cases hji : j = i
    · subst hji; exact hy.wpOp hi trivial ⟨fun q => (by rw [hp] at q; cases q), H⟩
    · have := ready_mono hj hji
      rw [H.1] at this
      cases this
  | succ fuel ih =>
    intro listed a w hfree hr hy H
    refine ⟨fun h => (by rw [h] at hr; cases hr), fun j hj => ?_⟩
    by_cases hji : j = i
    · subst hji; exact hy.wpOp hi trivial ⟨fun q => (by rw [hp] at q; cases q), H⟩
    · have h1 := H.2 j (ready_mono hj hji)
      obtain ⟨hjun, oj, hoj, hall⟩ := mem_ready.1 hj
      have hnot : ∀ e ∈ oj.after, Region.binds md e = true → e.on ≠ i := fun e he hb heq => by
        have h1 := hall e he hb
        have h0 := (mem_ready.1 hr).1
        rw [heq] at h1
        rcases Nat.lt_or_ge i listed.size with h' | h'
        · simp [h'] at h0 h1; rw [h0] at h1; cases h1
        · simp [Array.getElem?_eq_none h'] at h1
      have h2 := wpOp_putIf hoj (hfree j oj hoj hji hjun hnot) (fun cs b => hsel i oi cs b hi) (fun cs b => hsel j oj cs b hoj) hQ hy h1
      have hfree' : ∀ k ok, ops[k]? = some ok → k ≠ i → (listed.setIfInBounds j true).getD k true = false →
          (∀ e ∈ ok.after, Region.binds md e = true → e.on ≠ i) → oi.apart ops ok = true := fun k ok hk hki hun hno => by
        refine hfree k ok hk hki ?_ hno
        by_cases hjk : j = k
        · subst hjk; exact hjun
        · rw [getD_set_ne true hjk] at hun; exact hun
      refine wpOp_mono (fun a' w' h3 => ⟨fun q => h3.2.1 q, ih (listed.setIfInBounds j true) a' w' hfree' (ready_mono hr (Ne.symm hji)) h3.1 ?_⟩) h2
      rw [Array.setIfInBounds_comm _ _ hji]
      exact h3.2.2
/-- Take number i first, that yields its value in whatever world. -/
theorem wpAnyM_take0 {i : Nat} {oi : Oper} {v : Value} {fuel : Nat} {listed : Array Bool} {a : Act} {w : World} (hi : ops[i]? = some oi)
    (hs : Region.noSelect ops = true) (hf : Region.free md ops listed i = true) (hr : (Region.ready md ops listed).contains i = true) (hp : p i = false)
    (hQ : ∀ c a w, Q (.panic c) (a.put oi.dst v) w → Q (.panic c) a w) (hy : YieldsIf P ops (fun _ => True) oi v a)
    (h : wpAnyM P md ops Q S p fuel (listed.setIfInBounds i true) (a.put oi.dst v) w) : wpAnyM P md ops Q S p (fuel + 1) listed a w :=
  wpAnyM_first0 hi (Region.noSelect_spec hs) hQ hp fuel listed a w (Region.free_spec hi hf) (by simpa using hr) hy h
theorem wpAnyM_done {listed : Array Bool} {a : Act} {w : World} (hr : Region.ready md ops listed = []) (h : Q .normal a w) : ∀ fuel, wpAnyM P md ops Q S p fuel listed a w
  | 0 => ⟨hr, h⟩
  | _ + 1 => ⟨fun _ => h, by rw [hr]; simp⟩
/-- One alone may come up, and writes. -/
theorem wpAnyM_one {i : Nat} {o : Oper} {fuel : Nat} {listed : Array Bool} {a : Act} {w : World} (hr : Region.ready md ops listed = [i]) (ho : ops[i]? = some o)
    (h : wpList P ops (fun e a' w' => e = .normal ∧ (p i = true → S w') ∧ wpAnyM P md ops Q S p fuel (listed.setIfInBounds i true) a' w') [o] a w) : wpAnyM P md ops Q S p (fuel + 1) listed a w := by
  refine ⟨fun q => (by rw [hr] at q; cases q), fun j hj => ?_⟩
  rw [hr] at hj
  obtain rfl : j = i := by simpa using hj
  unfold wpOp
  simp only [ho]
  rw [wpList] at h
  split at h
  · rename_i hw
    rw [if_pos hw]
    rcases h with h | ⟨_, _, _, h, _⟩
    · refine .inl ?_
      unfold Oper.wp at *
      generalize (execOp a.eval o).run P w = r at *
      cases r with
      | ok n w' =>
        cases n <;> simp only [Oper.upon] at h ⊢ <;>
          first
            | exact h.2
            | exact Calls.mono h (fun e w'' he => by
                cases e <;> first | exact he.2 | exact absurd he.1 (by intro h; cases h) | (obtain ⟨_, _, he, _⟩ := he; cases he))
            | exact Rows.mono h (fun u w'' he => he.2)
      | halt x w' => cases x <;> simp only [Oper.upon] at h ⊢ <;> first | exact h | exact absurd h.1 (by intro h; cases h)
    · cases h
  · rename_i hw
    rw [if_neg hw]
    exact h.2
/-- The beginning: from the world behind the draw. -/
theorem wp_region_M {id : Nat} {a : Act} {w : World} (p : Nat → Bool) (S : World → Prop) (hm : P.follows .mixedOrders = true)
    (h : wpAnyM P .any ops Q S p ops.size (Array.replicate ops.size false) a w.drew) : (Code.region id ops true).wp P Q a w :=
  wp_region_any hm (wpAny_of_heldM _ _ _ _ h)
end
/-! Single operations. -/
theorem run_loadVar_at {P : Program} (w : World) (a : Addr) (ty : TypeId) (cs : List Value) (d : TypeDesc) (hc : ∀ j v, cs[j]? = some v → w.cell? (a.add j) = some v)
    (hu : P.underlying ty = some d) (hd : d.isRow = true) (hi : (P.info? ty).map (·.size) = some cs.length) : (loadVar ty a).run P w = .ok (.agg cs.toArray) w := by
  have hl := run_loadCells_list (P := P) w a cs hc
  obtain ⟨i, hq, hs⟩ := Option.map_eq_some_iff.1 hi
  have hz : (sizeOf ty).run P w = .ok cs.length w := by simp [sizeOf, typeInfo, hq, hs]
  have ha : (isAgg ty).run P w = .ok true w := by
    unfold isAgg
    rw [Sem.run_bind, run_underlying hu, Result.andThen_ok]
    cases d <;> first | rfl | (exact absurd hd (by decide)) | (simp [TypeDesc.isRow] at hd)
  unfold loadVar
  simp only [Sem.run_bind, ha, Result.andThen_ok, if_true, hz, hl, Sem.run_pure]
theorem yieldsIf_load_at {P : Program} {ops : Array Oper} {S : World → Prop} {op : Oper} {a : Act} (hw : Region.wanted op (yielded ops a.tmps) = true) (ty : TypeId) (x : Operand) (ho : op.op = .load ty x)
    (ad : Addr) (hx : a.eval x = .pointer (some ad)) (cs : List Value) (d : TypeDesc) (hS : ∀ w, S w → ∀ j v, cs[j]? = some v → w.cell? (ad.add j) = some v)
    (hu : P.underlying ty = some d) (hd : d.isRow = true) (hi : (P.info? ty).map (·.size) = some cs.length) : YieldsIf P ops S op (.agg cs.toArray) a :=
  .inl ⟨hw, fun w hw' => by
    unfold execOp
    simp only [ho, hx, Instr.loadAt, Instr.sureAddr, Sem.run_bind, Sem.run_pure, Result.andThen_ok, run_loadVar_at w ad ty cs d (hS w hw') hu hd hi]⟩
theorem wpl_op {P : Program} {ops : Array Oper} {Q : Exit → Act → World → Prop} {o : Oper} {rest : List Oper} {a : Act} {w : World} (hw : Region.wanted o (yielded ops a.tmps) = true) (h : Oper.wp P o a w (wpList P ops Q rest) Q) : wpList P ops Q (o :: rest) a w := by
  rw [wpList, if_pos hw]
  exact .inl h
theorem yieldsIf_build_at {P : Program} {ops : Array Oper} {S : World → Prop} {op : Oper} {a : Act} (hw : Region.wanted op (yielded ops a.tmps) = true) (T : TypeId) (parts : Array (Nat × Operand)) (ho : op.op = .build T parts)
    (vals : Array (Nat × Value)) (v : Value) (hp : (parts.map fun (i, x) => (i, a.eval x)) = vals) (hr : ∀ w, (Instr.build T vals).run P w = .ok v w) : YieldsIf P ops S op v a :=
  .inl ⟨hw, fun w _ => by
    subst hp
    unfold execOp
    simp only [ho, Sem.run_bind, hr w, Result.andThen_ok, Sem.run_pure]⟩
theorem wpl_nil {P : Program} {ops : Array Oper} {Q : Exit → Act → World → Prop} {a : Act} {w : World} (h : Q .normal a w) : wpList P ops Q [] a w := h
/-- One cell more is written. -/
theorem put_shift (cs : Array Value) (o : Nat) (v : Value) (r : List Value) (ho : o + (r.length + 1) ≤ cs.size) :
    ((cs.setIfInBounds o v).toList.take (o + 1) ++ (r ++ (cs.setIfInBounds o v).toList.drop (o + 1 + r.length))) = cs.toList.take o ++ (v :: r ++ cs.toList.drop (o + (r.length + 1))) := by
  apply List.ext_getElem?
  intro i
  have hl1 : (List.take (o + 1) (cs.setIfInBounds o v).toList).length = o + 1 := by simp; omega
  have hl2 : (List.take o cs.toList).length = o := by simp; omega
  rw [Array.toList_setIfInBounds] at hl1 ⊢
  rcases Nat.lt_trichotomy i o with hi | hi | hi
  · rw [List.getElem?_append_left (by omega), List.getElem?_append_left (by omega), List.getElem?_take_of_lt (by omega), List.getElem?_take_of_lt hi, List.getElem?_set_ne (by omega)]
  · subst hi
    rw [List.getElem?_append_left (by omega), List.getElem?_take_of_lt (by omega), List.getElem?_append_right (by omega), hl2, Nat.sub_self, List.getElem?_set_self (by simp; omega)]
    rfl
  · have L1 : ∀ R1 : List Value, (List.take (o + 1) (cs.toList.set o v) ++ R1)[i]? = R1[i - (o + 1)]? := fun R1 => by rw [List.getElem?_append_right (by omega), hl1]
    have L2 : ∀ R2 : List Value, (List.take o cs.toList ++ (v :: r ++ R2))[i]? = (r ++ R2)[i - (o + 1)]? := fun R2 => by rw [List.getElem?_append_right (by omega), hl2, show i - o = (i - (o + 1)) + 1 by omega, List.cons_append, List.getElem?_cons_succ]
    rw [L1, L2]
    rcases Nat.lt_or_ge (i - (o + 1)) r.length with hr | hr
    · rw [List.getElem?_append_left hr, List.getElem?_append_left hr]
    · rw [List.getElem?_append_right hr, List.getElem?_append_right hr, List.getElem?_drop, List.getElem?_drop, List.getElem?_set_ne (by omega)]
      congr 1
      omega
theorem foldl_put : ∀ (l : List Value) (k off : Nat) (cs : Array Value), off + k + l.length ≤ cs.size → (l.zipIdx k).foldl (fun cs x => cs.setIfInBounds (off + x.2) x.1) cs = (cs.toList.take (off + k) ++ (l ++ cs.toList.drop (off + k + l.length))).toArray
  | [], k, off, cs, h => by simp
  | v :: r, k, off, cs, h => by
    simp only [List.length_cons] at h
    rw [List.zipIdx_cons, List.foldl_cons, foldl_put r (k + 1) off _ (by rw [Array.size_setIfInBounds]; omega), show off + (k + 1) = off + k + 1 by omega, put_shift cs (off + k) v r (by omega)]
    rfl
theorem fill_one (place : Nat → Option (Nat × Nat)) (cells : Array Value) (i off size : Nat) (v : Value) (rest : List (Nat × Value)) (hp : place i = some (off, size)) (hv : v.cells.size = size) (ho : off + size ≤ cells.size) :
    Instr.fill place cells ((i, v) :: rest) = Instr.fill place (cells.toList.take off ++ (v.cells.toList ++ cells.toList.drop (off + size))).toArray rest := by
  rw [Instr.fill, hp]
  dsimp only
  rw [if_neg (by rw [hv]; simp; omega)]
  congr 1
  have := foldl_put v.cells.toList 0 off cells (by rw [Array.length_toList, hv]; omega)
  rw [Array.length_toList, hv, Nat.add_zero] at this
  rw [← this, ← Array.foldl_toList, Array.toList_zipIdx]
theorem run_slice1 (t e : TypeId) (C : Array Value) (ie : TypeInfo) (z : Value) (hu : Tryd.prog.underlying t = some (.slice e)) (hie : Tryd.prog.info? e = some ie) (hz : ie.zero = some z) (h0 : 0 < ie.size) (h1 : ie.size ≤ 1000) (hC : C.size = ie.size) (w : World) :
    (Instr.buildSlice t 1 #[(0, .agg C)]).run Tryd.prog w = .ok (.slice (some ⟨w.heap.size, 0, none⟩) 1 1) (w.alloc (.cells C e)) := by
  refine run_buildSlice w t e 1 _ C ie z hu hie hz (by omega) (by omega) ?_
  have := fill_one (fun i => some (i * ie.size, ie.size)) ((Array.range (1 * ie.size)).map (z.cells[· % z.cells.size]!)) 0 0 ie.size (.agg C) [] (by simp) hC (by simp)
  refine this.trans ?_
  rw [Instr.fill, List.drop_of_length_le (by simp)]
  simp [Value.cells]
theorem op_slice1 {P : Program} {Q : Exit → Act → World → Prop} {o : Oper} {a : Act} {w w1 : World} {K : Act → World → Prop} (t : TypeId) (n : Nat) (parts : Array (Nat × Operand)) (ho : o.op = .buildSlice t n parts)
    (vals : Array (Nat × Value)) (v : Value) (hp : (parts.map fun (i, x) => (i, a.eval x)) = vals) (hr : (Instr.buildSlice t n vals).run P w = .ok v w1) (h : K (a.put o.dst v) w1) : Oper.wp P o a w K Q := by
  subst hp
  unfold Oper.wp execOp
  simp only [ho, Sem.run_bind, hr, Result.andThen_ok]
  exact h
end Go.Proofs.YtagfljmjdkoehaaDoor

set_option linter.unusedVariables false
set_option linter.unusedSimpArgs false
namespace Go.Proofs.YtagfljmjdkoehaaDoor
open Go.RowKit

theorem mk8 (m : Nat) (hm : m ≤ 140737488355328) : ∀ W : World, (Instr.makeSlice 27 (.int .i64 (m : Int)) (.int .i64 (m : Int))).run Tryd.prog W = .ok (.slice (some ⟨W.heap.size, 0, none⟩) m m) (W.alloc (.cells (madeCells #[.int .u8 0] m) 5)) := by
  intro W
  exact run_make_row' 27 5 (.int .u8 0) 1 Tryd.underlying27 info8 rfl .i64 .i64 m (by omega) (by omega) W
theorem Ow.made (w : World) (base N : Nat) (hN : w.heap.size = N) (h : base ≤ w.heap.size) (m : Nat) (hm : m ≤ 140737488355328) : Ow (w.alloc (.cells (madeCells #[.int .u8 0] m) 5)) base (some ⟨N, 0, none⟩) m m (List.replicate m 0) := by
  subst hN
  have h := World.ownsRow_lit (base := base) (e := 5) (size := 1) w (madeCells #[.int .u8 0] m) m h (by simp [maxLen]; omega) (by simp [size_madeCells])
  have hl : (madeCells #[Value.int .u8 0] m).toList = u8v (List.replicate m 0) := by
    apply List.ext_getElem
    · simp [u8v, madeCells]
    · intro i h1 h2
      simp [u8v, madeCells, Nat.mod_one]
  rw [hl] at h
  exact ⟨h, hm⟩

end Go.Proofs.YtagfljmjdkoehaaDoor
