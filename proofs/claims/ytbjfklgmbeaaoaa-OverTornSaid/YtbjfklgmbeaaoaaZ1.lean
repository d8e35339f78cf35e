/- Words of this seat's own texts: slices of bytes that are read or owned, worlds that have grown, cuts of slices. The walks of crc's table and Update. The walk of crc.Update: what it does to a sum, nibble by nibble. The walks of slices.Clone, slices.Equal, bytes.Equal at bytes, and of crc's small functions. A region that draws its order, whose calls may make memory, and whose values hang on no new memory: one walk in the order of the text. A region that draws its order, in which a chain of operations writes: all others are taken first under a condition S on the world, which is to be shown behind each operation of a choice 'p' alone. More words: make([]byte, n). The walks of crc.Seal and crc.Sealed. The walks of the reference's sum. The walk of the reference's division. The walks of the reference's sum and seal. The plain law of the sums: what Update reckons is the division's rest. -/
import Derived.Test.YtbjfklgmbeaaoaaProg
import Derived.WalkKit
import Derived.WalkSpells
import Derived.WalkLawsBesides
import Derived.BigQuiet
import Derived.Deep.QuietTactic
import Derived.Deep.LoopGhost
import Derived.Deep.DeepFit
import Derived.Deep.Draws
import Derived.KernelRfl
import Derived.RowKit3
import Derived.LoopN
import Derived.Lib.SlBytesConst
import Derived.Lib.SmallJoins
import Derived.Deep.RegionWith
import Derived.Deep.RegionHeld3
import Derived.Deep.RegionLaw
import Derived.Maps.AppendAt
import Derived.Laws.OwnMore
import Derived.OrdersHeld
import Derived.Deep.MidRow
import Derived.Great.BuildSlice
import Derived.Deep.DeepCutAuto
import Derived.Deep.OwnRows
set_option linter.unusedVariables false
set_option linter.unusedSimpArgs false
namespace Go.Proofs.Ytbjfklgmbeaaoaa
open Go.RowKit

/-- A fact that the walk's simp does not look into. -/
structure Aside0 (p : Prop) : Prop where mk :: (out : p)

theorem ret_bool {a b : Bool} (h : a = b) : Ending.returned (.bool a) = .returned (.bool b) := by rw [h]
theorem ret_int {k : IntKind} {a b : Int} (h : a = b) : Ending.returned (.int k a) = .returned (.int k b) := by rw [h]
theorem ret_val {a b : Value} (h : a = b) : Ending.returned a = .returned b := by rw [h]

theorem add_plain (g j : Nat) : (⟨g, 0, none⟩ : Addr).add j = ⟨g, j, none⟩ := by unfold Addr.add; split <;> simp_all

/-! Bytes -/
def b8 (xs : List UInt8) (i : Nat) : Int := ((xs.getD i 0).toNat : Int)
theorem b8_lo (xs : List UInt8) (i : Nat) : 0 ≤ b8 xs i := by unfold b8; omega
theorem b8_hi (xs : List UInt8) (i : Nat) : b8 xs i ≤ 255 := by unfold b8; have := (xs.getD i 0).toNat_lt; omega
def u8v (xs : List UInt8) : List Value := xs.map fun x => .int .u8 (x.toNat : Int)
theorem u8v_length (xs : List UInt8) : (u8v xs).length = xs.length := by simp [u8v]
theorem u8v_append (xs ys : List UInt8) : u8v (xs ++ ys) = u8v xs ++ u8v ys := by simp [u8v]
theorem u8v_get (xs : List UInt8) (j : Nat) (h : j < xs.length) : (u8v xs)[j]? = some (.int .u8 (b8 xs j)) := by
  simp [u8v, b8, List.getElem?_eq_getElem h, List.getD_eq_getElem?_getD]
theorem u8v_one (xs : List UInt8) : ∀ u ∈ u8v xs, u.oneCell' = true := by
  intro u hu
  simp only [u8v, List.mem_map] at hu
  obtain ⟨q, _, rfl⟩ := hu
  rfl

/-! A slice of bytes that is read -/
structure Bs (w : World) (A : Option Addr) (n c : Nat) (xs : List UInt8) : Prop where
  len : xs.length = n
  le : n ≤ c
  cap : c ≤ 9223372036854775807
  lim : n ≤ 140737488355328
  cells : 0 < n → ∃ ad, A = some ad ∧ ∀ j, j < n → w.cell? (ad.add j) = some (.int .u8 (b8 xs j))

theorem Bs.at_ {w : World} {A : Option Addr} {n c : Nat} {xs : List UInt8} (h : Bs w A n c xs) (i : Int) (h0 : 0 ≤ i) (h1 : i < (n : Int)) :
    ∃ ad, A = some ad ∧ w.cell? (ad.add i.toNat) = some (.int .u8 (b8 xs i.toNat)) := by
  obtain ⟨ad, e, hc⟩ := h.cells (by omega)
  exact ⟨ad, e, hc _ (by omega)⟩
theorem Bs.atN {w : World} {A : Option Addr} {n c : Nat} {xs : List UInt8} (h : Bs w A n c xs) (i : Nat) (h1 : i < n) :
    ∃ ad, A = some ad ∧ w.cell? (ad.add i) = some (.int .u8 (b8 xs i)) := by
  obtain ⟨ad, e, hc⟩ := h.cells (by omega)
  exact ⟨ad, e, hc _ (by omega)⟩
theorem Bs.nil (w : World) (A : Option Addr) (c : Nat) (hc : c ≤ 9223372036854775807) : Bs w A 0 c [] := ⟨rfl, Nat.zero_le _, hc, by omega, fun h => absurd h (by omega)⟩
theorem cell_below {w w1 : World} (h : Below w.heap.size w w1) {a : Addr} {v : Value} (hc : w.cell? a = some v) : w1.cell? a = some v := (h.cell (World.block_lt_of_cell? w a hc)).trans hc
theorem Bs.below {w w1 : World} {A : Option Addr} {n c : Nat} {xs : List UInt8} (h : Bs w A n c xs) (hb : Below w.heap.size w w1) : Bs w1 A n c xs :=
  ⟨h.len, h.le, h.cap, h.lim, fun hn => by
    obtain ⟨ad, e, hc⟩ := h.cells hn
    exact ⟨ad, e, fun j hj => cell_below hb (hc j hj)⟩⟩
theorem Bs.map {w w1 : World} {A : Option Addr} {n c : Nat} {xs : List UInt8} (h : Bs w A n c xs) (hb : ∀ a v, w.cell? a = some v → w1.cell? a = some v) : Bs w1 A n c xs :=
  ⟨h.len, h.le, h.cap, h.lim, fun hn => by
    obtain ⟨ad, e, hc⟩ := h.cells hn
    exact ⟨ad, e, fun j hj => hb _ _ (hc j hj)⟩⟩
theorem below_alloc {B : Nat} {w W : World} (h : Below B w W) (hB : B ≤ W.heap.size) (o : Obj) : Below B w (W.alloc o) := h.alloc hB o
theorem below_drew {B : Nat} {w W : World} (h : Below B w W) : Below B w W.drew := ⟨h.os, h.tape, h.output, h.size, h.block⟩
theorem below_drawn {B : Nat} {w W : World} (h : Below B w W) (n : Nat) : Below B w (W.drewN n) := ⟨h.os, h.tape, h.output, h.size, h.block⟩
theorem Bs.alloc {w : World} {A : Option Addr} {n c : Nat} {xs : List UInt8} (h : Bs w A n c xs) (o : Obj) : Bs (w.alloc o) A n c xs := h.below ((Below.refl _ _).alloc (Nat.le_refl _) o)
theorem Bs.drewN {w : World} {A : Option Addr} {n c : Nat} {xs : List UInt8} (h : Bs w A n c xs) (m : Nat) : Bs (w.drewN m) A n c xs := h.map (fun _ _ h => h)
theorem Bs.drew {w : World} {A : Option Addr} {n c : Nat} {xs : List UInt8} (h : Bs w A n c xs) : Bs w.drew A n c xs := h.map (fun _ _ h => h)
theorem below_then {B : Nat} {w w1 w2 : World} (h : Below B w w1) (hB : B ≤ w1.heap.size) (k : Below w1.heap.size w1 w2) : Below B w w2 :=
  h.trans ⟨k.os, k.tape, k.output, k.size, fun i hi => k.block i (Nat.lt_of_lt_of_le hi hB)⟩
/-- What a walk wants of a world behind a call. -/
theorem bcell {W w1 : World} (hb : Below W.heap.size W w1) : (∀ b o, b < W.heap.size → w1.cell? ⟨b, o, none⟩ = W.cell? ⟨b, o, none⟩) ∧ (∀ b o, b < W.heap.size → w1.frozen? ⟨b, o, none⟩ = W.frozen? ⟨b, o, none⟩) :=
  ⟨fun b o h => hb.cell (p := ⟨b, o, none⟩) h, fun b o h => hb.frozen (p := ⟨b, o, none⟩) h⟩

/-! Cuts of a slice -/
def cutA (A : Option Addr) (c i : Nat) : Option Addr := if c = i then A else A.map (·.add i)
theorem add_add (ad : Addr) (i j : Nat) : (ad.add i).add j = ad.add (i + j) := by
  unfold Addr.add
  by_cases h1 : i = 0 <;> by_cases h2 : j = 0 <;> simp [h1, h2, Nat.add_assoc]
theorem Bs.take {w : World} {A : Option Addr} {n c : Nat} {xs : List UInt8} (h : Bs w A n c xs) (i : Nat) (hi : i ≤ n) : Bs w A i c (xs.take i) := by
  refine ⟨by rw [List.length_take, h.len]; omega, by have := h.le; omega, h.cap, by have := h.lim; omega, fun hp => ?_⟩
  obtain ⟨ad, e, hc⟩ := h.cells (by omega)
  refine ⟨ad, e, fun j hj => ?_⟩
  rw [hc j (by omega)]
  simp [b8, List.getD_eq_getElem?_getD, hj]
theorem Bs.drop {w : World} {A : Option Addr} {n c : Nat} {xs : List UInt8} (h : Bs w A n c xs) (i : Nat) (hi : i ≤ n) : Bs w (cutA A c i) (n - i) (c - i) (xs.drop i) := by
  refine ⟨by rw [List.length_drop, h.len], by have := h.le; omega, by have := h.cap; omega, by have := h.lim; omega, fun hp => ?_⟩
  obtain ⟨ad, rfl, hcell⟩ := h.cells (by omega)
  have := h.le
  unfold cutA
  rw [if_neg (by omega)]
  refine ⟨ad.add i, rfl, fun j hj => ?_⟩
  rw [add_add, hcell (i + j) (by omega)]
  simp [b8, List.getD_eq_getElem?_getD, List.getElem?_drop]

/-! The type of the slices of bytes -/
theorem elem8 : Try.prog.elem 27 = 5 := by simp [Program.elem, Try.underlying27]
theorem info8 : (Try.prog.info? 5).map (fun i => (i.zero, i.size, i.bytes)) = some (some (.int .u8 0), 1, 1) := by kernel_rfl
theorem und8 : Try.prog.underlying 27 = some (.slice (Try.prog.elem 27)) := by rw [elem8]; exact Try.underlying27
theorem size8 (w : World) : (sizeOf (Try.prog.elem 27)).run Try.prog w = .ok 1 w := by
  rw [elem8]
  obtain ⟨i, hi, hz⟩ := Option.map_eq_some_iff.1 info8
  simp only [Prod.mk.injEq] at hz
  simp [sizeOf, typeInfo, hi, hz.2.1]
theorem sl8_lh (w : World) (A : Option Addr) (n c : Nat) (kl kh : IntKind) (l h : Int) (h0 : 0 ≤ l) (h1 : l ≤ h) (h2 : h ≤ (c : Int)) :
    (Instr.slice 27 (.slice A n c) (some (.int kl l)) (some (.int kh h)) none).run Try.prog w = .ok (.slice (cutA A c l.toNat) (h.toNat - l.toNat) (c - l.toNat)) w := by
  rw [run_slice_lh w _ A n c und8 kl kh l h h0 h1 h2, size8]
  simp [sliced, cutA, Result.andThen]
theorem sl8_h (w : World) (A : Option Addr) (n c : Nat) (kh : IntKind) (h : Int) (h0 : 0 ≤ h) (h2 : h ≤ (c : Int)) :
    (Instr.slice 27 (.slice A n c) none (some (.int kh h)) none).run Try.prog w = .ok (.slice A h.toNat c) w := by
  rw [run_slice_h w _ A n c und8 kh h h0 h2, size8]
  simp [sliced, Result.andThen, Addr.add]
theorem sl8_l (w : World) (A : Option Addr) (n c : Nat) (kl : IntKind) (l : Int) (h0 : 0 ≤ l) (h1 : l ≤ (n : Int)) :
    (Instr.slice 27 (.slice A n c) (some (.int kl l)) none none).run Try.prog w = .ok (.slice (cutA A c l.toNat) (n - l.toNat) (c - l.toNat)) w := by
  rw [run_slice_l w _ A n c und8 kl l h0 h1, size8]
  simp [sliced, cutA, Result.andThen]

/-! A slice of bytes that the call itself made -/
structure Ow (w : World) (base : Nat) (A : Option Addr) (n c : Nat) (xs : List UInt8) : Prop where
  row : w.ownsRow base 5 1 (.slice A n c) n (u8v xs)
  lim : n ≤ 140737488355328
theorem own_form {w : World} {base n : Nat} {e : TypeId} {size : Nat} {v : Value} {xs : List Value} (h : w.ownsRow base e size v n xs) : ∃ A c, v = .slice A n c := by
  rcases h.2 with ⟨rfl, rfl⟩ | ⟨g, cap, cur, rfl, _⟩
  · exact ⟨none, 0, rfl⟩
  · exact ⟨_, cap, rfl⟩
theorem Ow.of_row {w : World} {base n : Nat} {v : Value} {xs : List UInt8} (h : w.ownsRow base 5 1 v n (u8v xs)) (hl : n ≤ 140737488355328) : ∃ A c, v = .slice A n c ∧ Ow w base A n c xs := by
  obtain ⟨A, c, rfl⟩ := own_form h
  exact ⟨A, c, rfl, h, hl⟩
theorem Ow.len {w : World} {base n c : Nat} {A : Option Addr} {xs : List UInt8} (h : Ow w base A n c xs) : xs.length = n := by
  have := h.row.1; rw [u8v_length] at this; omega
theorem Ow.bs {w : World} {base n c : Nat} {A : Option Addr} {xs : List UInt8} (h : Ow w base A n c xs) : Bs w A n c xs := by
  have hl := h.len
  rcases h.row.2 with ⟨hv, h0⟩ | ⟨g, cap, cur, hv, hg, hh, hn, hm, hcs, ht⟩
  · injection hv with h1 h2 h3
    subst h1; subst h2; subst h3
    exact ⟨hl, Nat.le_refl _, by omega, by omega, fun h => absurd h (by omega)⟩
  · injection hv with h1 h2 h3
    subst h1; subst h3
    refine ⟨hl, hn, by simp only [maxLen] at hm; omega, h.lim, fun _ => ⟨_, rfl, fun j hj => ?_⟩⟩
    exact h.row.cells (g := g) rfl j _ (u8v_get xs j (by omega))
theorem Ow.kept {w w1 : World} {base n c : Nat} {A : Option Addr} {xs : List UInt8} (h : Ow w base A n c xs) (hb : ∀ g, A = some ⟨g, 0, none⟩ → g < w.heap.size → w1.heap[g]? = w.heap[g]?) : Ow w1 base A n c xs := by
  refine ⟨⟨h.row.1, ?_⟩, h.lim⟩
  rcases h.row.2 with hn | ⟨g, cap, cur, hv, hg, hh, rest⟩
  · exact .inl hn
  · refine .inr ⟨g, cap, cur, hv, hg, ?_, rest⟩
    injection hv with h1 _ _
    rw [hb g h1 (Array.getElem?_eq_some_iff.1 hh).1]
    exact hh
theorem Ow.below {w w1 : World} {base n c : Nat} {A : Option Addr} {xs : List UInt8} (h : Ow w base A n c xs) (hb : Below w.heap.size w w1) : Ow w1 base A n c xs :=
  h.kept fun g _ hg => hb.block g hg
theorem Ow.alloc {w : World} {base n c : Nat} {A : Option Addr} {xs : List UInt8} (h : Ow w base A n c xs) (o : Obj) : Ow (w.alloc o) base A n c xs := h.below ((Below.refl _ _).alloc (Nat.le_refl _) o)
theorem Ow.drewN {w : World} {base n c : Nat} {A : Option Addr} {xs : List UInt8} (h : Ow w base A n c xs) (m : Nat) : Ow (w.drewN m) base A n c xs := h.kept fun _ _ _ => rfl
theorem Ow.mono {w : World} {base base' n c : Nat} {A : Option Addr} {xs : List UInt8} (h : Ow w base A n c xs) (hb : base' ≤ base) : Ow w base' A n c xs := by
  refine ⟨⟨h.row.1, ?_⟩, h.lim⟩
  rcases h.row.2 with hn | ⟨g, cap, cur, hv, hg, rest⟩
  · exact .inl hn
  · exact .inr ⟨g, cap, cur, hv, by omega, rest⟩
theorem Ow.nil (w : World) (base : Nat) : Ow w base none 0 0 [] := ⟨World.ownsRow_nil _ _ _ _, by omega⟩
theorem Ow.lit0 (w : World) (base N : Nat) (hN : w.heap.size = N) (h : base ≤ w.heap.size) : Ow (w.alloc (.cells #[] 5)) base (some ⟨N, 0, none⟩) 0 0 [] := by
  subst hN
  exact ⟨by simpa [u8v] using World.ownsRow_lit (base := base) (e := 5) (size := 1) w #[] 0 h (by simp [maxLen]) (by simp), by omega⟩
theorem Ow.head {w : World} {base n c : Nat} {A : Option Addr} {xs : List UInt8} (h : Ow w base A n c xs) (h0 : 0 < n) :
    ∃ g, A = some ⟨g, 0, none⟩ ∧ base ≤ g ∧ g < w.heap.size ∧ ∀ j, w.frozen? ⟨g, j, none⟩ = false := by
  rcases h.row.2 with ⟨hv, hn⟩ | ⟨g, cap, cur, hv, hg, hh, _⟩
  · omega
  · injection hv with h1 _ _
    exact ⟨g, h1, hg, (Array.getElem?_eq_some_iff.1 hh).1, fun j => by simp [World.frozen?, hh]⟩
theorem Ow.store {w : World} {base g n c : Nat} {xs : List UInt8} (h : Ow w base (some ⟨g, 0, none⟩) n c xs) (j : Nat) (x : UInt8) :
    Ow (w.setCell ⟨g, j, none⟩ (.int .u8 (x.toNat : Int))) base (some ⟨g, 0, none⟩) n c (xs.set j x) := by
  have hs := (h.row.stored j (.int .u8 (x.toNat : Int))).1
  have he : (u8v xs).set j (.int .u8 (x.toNat : Int)) = u8v (xs.set j x) := by simp [u8v, List.map_set]
  rw [he] at hs
  exact ⟨hs, h.lim⟩

/-- A literal row of bytes, read. -/
theorem Bs.lit (w : World) (N : Nat) (hN : w.heap.size = N) (C : Array Value) (T : TypeId) (fr : Nat × Nat) (n c : Nat) (xs : List UInt8) (hC : C = (u8v xs).toArray) (hn : xs.length = n) (hc : n ≤ c) (hc' : c ≤ 9223372036854775807) (hl : n ≤ 140737488355328) : Bs (w.alloc (.cells C T fr)) (some ⟨N, 0, none⟩) n c xs := by
  subst hN
  refine ⟨hn, hc, hc', hl, fun _ => ⟨_, rfl, fun j hj => ?_⟩⟩
  rw [add_plain, World.cell?_alloc_mark, hC]
  simpa using u8v_get xs j (by omega)

/-! append(v, x...), whatever is appended -/
section
variable {P : Program} {ops : Array Oper} {rest : List Oper} {o : Oper} {a : Act} {Q : Exit → Act → World → Prop}
theorem wpl_append {w0 W : World} (base : Nat) (hgd : o.guard = none) (s x : Operand) (t e : TypeId) (z : Value) (size bytes : Nat)
    (ho : o.op = .call { callee := .builtin .append, args := #[s, x], argTypes := #[t, t] })
    (ht : P.underlying t = some (.slice e)) (hinfo : (P.info? e).map (fun i => (i.zero, i.size, i.bytes)) = some (some z, size, bytes)) (hzs : z.cells.size = size) (hsz : 0 < size) (hb0 : 0 < bytes)
    (v : Value) (n : Nat) (xs : List Value) (A : Option Addr) (m c : Nat) (news : List Value) (hs : a.eval s = v) (hx : a.eval x = .slice A m c)
    (HO : W.ownsRow base e size v n xs) (hnl : news.length = m * size) (hA : 0 < m → ∃ ad, A = some ad ∧ ∀ j u, news[j]? = some u → W.cell? (ad.add j) = some u) (h1 : ∀ u ∈ news, u.oneCell' = true)
    (HB : Below base w0 W) (hbase : base ≤ W.heap.size) (hl : (n + m) * bytes ≤ 140737488355328)
    (h : ∀ v1 w1, w1.ownsRow base e size v1 (n + m) (xs ++ news) → Below base w0 w1 → W.grownBy w1 v.ownBlock → (v1.ownBlock = v.ownBlock ∨ v1.ownBlock = some W.heap.size) → wpList P ops Q rest (a.put o.dst v1) w1) :
    wpList P ops Q (o :: rest) a W := by
  obtain ⟨i0, hi, hzz⟩ := Option.map_eq_some_iff.1 hinfo
  simp only [Prod.mk.injEq] at hzz
  obtain ⟨hz0, hz1, hz2⟩ := hzz
  have hlen : n + m ≤ 140737488355328 := Nat.le_trans (Nat.le_mul_of_pos_right _ hb0) hl
  have hbk : ∀ k, v.ownBlock = some k → base ≤ k := fun k hk => (HO.lt k hk).1
  have hrun : ∃ v1 w1, (Builtin.append_ #[t, t] o.type #[v, .slice A m c]).run P W = .ok v1 w1 ∧ w1.ownsRow base e size v1 (n + m) (xs ++ news) ∧ W.grownBy w1 v.ownBlock ∧ (v1.ownBlock = v.ownBlock ∨ v1.ownBlock = some W.heap.size) := by
    rcases A with _ | ad
    · have h0 : m = 0 := by
        rcases Nat.eq_zero_or_pos m with h0 | h0
        · exact h0
        · obtain ⟨ad, h, _⟩ := hA h0
          cases h
      subst h0
      obtain rfl : news = [] := List.eq_nil_of_length_eq_zero (by simpa using hnl)
      refine ⟨v, W, ?_, by simpa using HO, ⟨rfl, rfl, rfl, Nat.le_refl _, fun _ _ _ => rfl⟩, .inl rfl⟩
      rcases HO.2 with ⟨rfl, hn⟩ | ⟨g, cap, cur, rfl, _, _, hnc, _⟩
      · simp [Builtin.append_, run_underlying ht, sizeOf, typeInfo, hi, Builtin.lenOf, Builtin.firstCells]
      · simp [Builtin.append_, run_underlying ht, sizeOf, typeInfo, hi, Builtin.lenOf, Builtin.firstCells, hnc, storeCells]
    · have hcells : ∀ j u, news[j]? = some u → W.cell? (ad.add j) = some u := by
        intro j u hu
        have hj : 0 < m := by
          rcases Nat.eq_zero_or_pos m with h | h
          · subst h
            have : news = [] := List.eq_nil_of_length_eq_zero (by simpa using hnl)
            subst this
            simp at hu
          · exact h
        obtain ⟨ad', h', hc⟩ := hA hj
        injection h' with h'
        subst h'
        exact hc j u hu
      obtain ⟨v1, w1, hr, h2, h3, _, h5⟩ := run_append_own_at (P := P) W base t o.type e i0 z size bytes ht hi hz0 hz1 hz2 hzs hsz v n xs HO ad m c news hnl hcells h1 (by simp only [maxLen]; omega) hl hbase
      exact ⟨v1, w1, hr, h2, h3, h5⟩
  obtain ⟨v1, w1, hr, hown, hg, hat⟩ := hrun
  refine wpList_plain hgd fun K hK => ?_
  unfold Oper.wp execOp
  simp only [ho, resolve, invoke, builtin, Sem.run_bind, Sem.run_pure, Result.andThen_ok, List.map_toArray, List.map_cons, List.map_nil, hs, hx, hr]
  exact hK _ _ (h v1 w1 hown (HB.grown hg hbase hbk) hg hat)

end
/-- append of bytes to bytes. -/
theorem wpl_app8 {ops : Array Oper} {rest : List Oper} {o : Oper} {a : Act} {Q : Exit → Act → World → Prop} {w0 W : World} (base : Nat) (hgd : o.guard = none) (s x : Operand)
    (ho : o.op = .call { callee := .builtin .append, args := #[s, x], argTypes := #[27, 27] })
    (A1 : Option Addr) (n c1 : Nat) (xs : List UInt8) (A : Option Addr) (m c : Nat) (ys : List UInt8) (hs : a.eval s = .slice A1 n c1) (hx : a.eval x = .slice A m c)
    (HO : Ow W base A1 n c1 xs) (HR : Bs W A m c ys) (HB : Below base w0 W) (hbase : base ≤ W.heap.size) (hl : n + m ≤ 140737488355328)
    (h : ∀ A2 c2 w1, Ow w1 base A2 (n + m) c2 (xs ++ ys) → Below base w0 w1 → W.grownBy w1 (Value.slice A1 n c1).ownBlock → ((Value.slice A2 (n + m) c2).ownBlock = (Value.slice A1 n c1).ownBlock ∨ (Value.slice A2 (n + m) c2).ownBlock = some W.heap.size) → wpList Try.prog ops Q rest (a.put o.dst (.slice A2 (n + m) c2)) w1) :
    wpList Try.prog ops Q (o :: rest) a W := by
  refine wpl_append base hgd s x 27 5 (.int .u8 0) 1 1 ho Try.underlying27 info8 rfl (by omega) (by omega) _ n (u8v xs) A m c (u8v ys) hs hx HO.row (by rw [u8v_length, HR.len]; omega) ?_ (u8v_one ys) HB hbase (by omega) ?_
  · intro hm
    obtain ⟨ad, e, hc⟩ := HR.cells hm
    refine ⟨ad, e, fun j u hu => ?_⟩
    have hj : j < ys.length := by
      rcases Nat.lt_or_ge j ys.length with h | h
      · exact h
      · simp [u8v, List.getElem?_eq_none h] at hu
    rw [u8v_get ys j hj] at hu
    injection hu with hu
    subst hu
    exact hc j (by rw [← HR.len]; exact hj)
  · intro v1 w1 hown hB hg hat
    rw [← u8v_append] at hown
    obtain ⟨A2, c2, rfl, hO⟩ := Ow.of_row hown hl
    exact h A2 c2 w1 hO hB hg hat

/-- The same, its end told in numbers of one's own. -/
theorem wpl_a8 {ops : Array Oper} {rest : List Oper} {o : Oper} {a : Act} {Q : Exit → Act → World → Prop} {w0 W : World} (base : Nat) (hgd : o.guard = none) (s x : Operand)
    (ho : o.op = .call { callee := .builtin .append, args := #[s, x], argTypes := #[27, 27] })
    (A1 : Option Addr) (n c1 : Nat) (xs : List UInt8) (A : Option Addr) (m c : Nat) (ys : List UInt8) (N : Nat) (zs : List UInt8) (hs : a.eval s = .slice A1 n c1) (hx : a.eval x = .slice A m c)
    (HO : Ow W base A1 n c1 xs) (HR : Bs W A m c ys) (HB : Below base w0 W) (hbase : base ≤ W.heap.size) (hN : n + m = N) (hl : N ≤ 140737488355328) (hz : xs ++ ys = zs)
    (h : ∀ A2 c2 w1, Aside0 (Ow w1 base A2 N c2 zs) → Aside0 (Below base w0 w1) → wpList Try.prog ops Q rest (a.put o.dst (.slice A2 N c2)) w1) :
    wpList Try.prog ops Q (o :: rest) a W := by
  subst hN
  subst hz
  exact wpl_app8 base hgd s x ho A1 n c1 xs A m c ys hs hx HO HR HB hbase hl fun A2 c2 w1 hO hB _ _ => h A2 c2 w1 ⟨hO⟩ ⟨hB⟩

/-! string(b) -/
def strB (xs : List UInt8) : ByteArray := ⟨xs.toArray⟩
theorem strB_list (xs : List UInt8) : (strB xs).toList = xs := by rw [ByteArray.toList_eq]; rfl
theorem strB_of (xs : List UInt8) : strOfNums (xs.map fun x => (x.toNat : Int)) = strB xs := by
  unfold strOfNums strB
  congr 2
  rw [List.map_map]
  exact (List.map_congr_left (fun x _ => by simp)).trans (List.map_id _)
theorem conv8 {w : World} {A : Option Addr} {n c : Nat} {xs : List UInt8} (h : Bs w A n c xs) : (convert 27 9 (.slice A n c)).run Try.prog w = .ok (.string (strB xs)) w := by
  have hn := h.len
  rcases A with _ | ad
  · have h0 : n = 0 := by
      rcases Nat.eq_zero_or_pos n with h0 | h0
      · exact h0
      · obtain ⟨ad, h', _⟩ := h.cells h0
        cases h'
    subst h0
    obtain rfl : xs = [] := List.eq_nil_of_length_eq_zero hn
    exact run_convert_bytes_nil w 27 5 Try.underlying27 Try.underlying5 0 c 9 Try.underlying9
  · have hl : (loadCells ad n).run Try.prog w = .ok (u8v xs).toArray w := by
      have := run_loadCells_list (P := Try.prog) w ad (u8v xs) (fun j v hj => by
        have hjl : j < xs.length := by
          rcases Nat.lt_or_ge j xs.length with h' | h'
          · exact h'
          · rw [List.getElem?_eq_none (by rw [u8v_length]; exact h')] at hj
            cases hj
        rw [u8v_get xs j hjl] at hj
        injection hj with hj
        subst hj
        obtain ⟨ad', he', hc⟩ := h.cells (by omega)
        injection he' with he'
        subst he'
        exact hc j (by omega))
      rwa [u8v_length, hn] at this
    have hu : u8v xs = (xs.map fun x => (x.toNat : Int)).map (Value.int .u8) := by simp [u8v]
    rw [hu] at hl
    rw [run_convert_bytes_string w 27 9 5 _ n c Try.underlying27 Try.underlying5 Try.underlying9, run_bytesToString w ad n c _ hl, ← strB_of, foldl_push_bytes]
    simp [strOfNums, ByteArray.empty, ByteArray.emptyWithCapacity]
    rfl

/-! append(v, y): one element of one cell -/
theorem wpl_app1 {P : Program} {ops : Array Oper} {rest : List Oper} {o : Oper} {a : Act} {Q : Exit → Act → World → Prop} {w0 W : World} (base : Nat) (hgd : o.guard = none) (s x : Operand) (t e : TypeId) (z : Value) (bytes : Nat)
    (ho : o.op = .call { callee := .builtin .append, args := #[s, x], argTypes := #[t, t] })
    (ht : P.underlying t = some (.slice e)) (hinfo : (P.info? e).map (fun i => (i.zero, i.size, i.bytes)) = some (some z, 1, bytes)) (hzs : z.cells.size = 1) (hb0 : 0 < bytes)
    (v : Value) (n : Nat) (xs : List Value) (y : Value) (hs : a.eval s = v) (hx : a.eval x = .slice (some ⟨W.heap.size, 0, none⟩) 1 1) (hy : y.oneCell' = true)
    (HO : W.ownsRow base e 1 v n xs) (HB : Below base w0 W) (hbase : base ≤ W.heap.size) (hl : (n + 1) * bytes ≤ 140737488355328)
    (h : ∀ v1 w1, w1.ownsRow base e 1 v1 (n + 1) (xs ++ [y]) → Below base w0 w1 → W.grownBy w1 v.ownBlock → (v1.ownBlock = v.ownBlock ∨ v1.ownBlock = some (W.heap.size + 1)) → wpList P ops Q rest (a.put o.dst v1) w1) :
    wpList P ops Q (o :: rest) a (W.alloc (.cells #[y] e)) := by
  refine wpl_append (w0 := w0) base hgd s x t e z 1 bytes ho ht hinfo hzs (by omega) hb0 v n xs (some ⟨W.heap.size, 0, none⟩) 1 1 [y] hs hx (HO.alloc _) rfl ?_ (by simpa using hy) (HB.alloc hbase _) (by simp; omega) hl ?_
  · intro _
    refine ⟨_, rfl, fun j u hu => ?_⟩
    have hj : j = 0 := by
      rcases Nat.eq_zero_or_pos j with h | h
      · exact h
      · simp [List.getElem?_eq_none (show [y].length ≤ j from h)] at hu
    subst hj
    simp at hu
    subst hu
    rw [add_plain, cell_of_row _ _ _ _ _ _ (heap_alloc_new W _)]
    rfl
  · intro v1 w1 hown hB hg hat
    refine h v1 w1 hown hB ?_ ?_
    · exact ⟨hg.os, hg.tape, hg.output, by have := hg.size; simp at this; omega, fun k hk hne => (hg.block k (by simp; omega) hne).trans (Below.heap_alloc _ _ _ hk)⟩
    · simpa using hat

/-! A slice of bools that the call itself made -/
def blv (l : List Bool) : List Value := l.map Value.bool
theorem blv_length (l : List Bool) : (blv l).length = l.length := by simp [blv]
theorem blv_append (l m : List Bool) : blv (l ++ m) = blv l ++ blv m := by simp [blv]
structure Obl (w : World) (base : Nat) (A : Option Addr) (n c : Nat) (l : List Bool) : Prop where
  row : w.ownsRow base 4 1 (.slice A n c) n (blv l)
  lim : n ≤ 140737488355328
theorem Obl.len {w : World} {base n c : Nat} {A : Option Addr} {l : List Bool} (h : Obl w base A n c l) : l.length = n := by
  have := h.row.1; rw [blv_length] at this; omega
theorem Obl.kept {w w1 : World} {base n c : Nat} {A : Option Addr} {l : List Bool} (h : Obl w base A n c l) (hb : ∀ g, A = some ⟨g, 0, none⟩ → g < w.heap.size → w1.heap[g]? = w.heap[g]?) : Obl w1 base A n c l := by
  refine ⟨⟨h.row.1, ?_⟩, h.lim⟩
  rcases h.row.2 with hn | ⟨g, cap, cur, hv, hg, hh, rest⟩
  · exact .inl hn
  · refine .inr ⟨g, cap, cur, hv, hg, ?_, rest⟩
    injection hv with h1 _ _
    rw [hb g h1 (Array.getElem?_eq_some_iff.1 hh).1]
    exact hh
theorem Obl.below {w w1 : World} {base n c : Nat} {A : Option Addr} {l : List Bool} (h : Obl w base A n c l) (hb : Below w.heap.size w w1) : Obl w1 base A n c l :=
  h.kept fun g _ hg => hb.block g hg
theorem Obl.alloc {w : World} {base n c : Nat} {A : Option Addr} {l : List Bool} (h : Obl w base A n c l) (o : Obj) : Obl (w.alloc o) base A n c l := h.below ((Below.refl _ _).alloc (Nat.le_refl _) o)
theorem Obl.nil (w : World) (base : Nat) : Obl w base none 0 0 [] := ⟨World.ownsRow_nil _ _ _ _, by omega⟩
theorem Obl.cap {w : World} {base n c : Nat} {A : Option Addr} {l : List Bool} (h : Obl w base A n c l) : n ≤ c ∧ c ≤ 9223372036854775807 := by
  rcases h.row.2 with ⟨hv, hn⟩ | ⟨g, cap, cur, hv, hg, hh, h1, h2, _⟩
  · injection hv with h1 h2 h3
    omega
  · injection hv with _ _ h3
    simp only [maxLen] at h2
    omega
/-- Where its cells are, what they hold, and that they may be written. -/
theorem Obl.at_ {w : World} {base n c : Nat} {A : Option Addr} {l : List Bool} (h : Obl w base A n c l) (j : Nat) (hj : j < n) :
    ∃ g, A = some ⟨g, 0, none⟩ ∧ base ≤ g ∧ g < w.heap.size ∧ w.cell? ⟨g, j, none⟩ = some (.bool (l.getD j false)) ∧ w.frozen? ⟨g, j, none⟩ = false := by
  have hl := h.len
  rcases h.row.2 with ⟨hv, hn⟩ | ⟨g, cap, cur, hv, hg, hh, _⟩
  · omega
  · injection hv with h1 _ _
    refine ⟨g, h1, hg, (Array.getElem?_eq_some_iff.1 hh).1, ?_, by simp [World.frozen?, hh]⟩
    have hc := h.row.cells (g := g) (by rw [h1]; rfl) j (.bool (l.getD j false)) (by simp [blv, List.getElem?_eq_getElem (show j < l.length by omega), List.getD_eq_getElem?_getD])
    rwa [add_plain] at hc
theorem Obl.store {w : World} {base g n c : Nat} {l : List Bool} (h : Obl w base (some ⟨g, 0, none⟩) n c l) (j : Nat) (x : Bool) :
    Obl (w.setCell ⟨g, j, none⟩ (.bool x)) base (some ⟨g, 0, none⟩) n c (l.set j x) := by
  have hs := (h.row.stored j (.bool x)).1
  have he : (blv l).set j (.bool x) = blv (l.set j x) := by simp [blv, List.map_set]
  rw [he] at hs
  exact ⟨hs, h.lim⟩
theorem infoB : (Try.prog.info? 4).map (fun i => (i.zero, i.size, i.bytes)) = some (some (.bool false), 1, 1) := by kernel_rfl
theorem wpl_appb {ops : Array Oper} {rest : List Oper} {o : Oper} {a : Act} {Q : Exit → Act → World → Prop} {w0 W : World} (base : Nat) (hgd : o.guard = none) (s x : Operand)
    (ho : o.op = .call { callee := .builtin .append, args := #[s, x], argTypes := #[171, 171] })
    (A1 : Option Addr) (n c1 : Nat) (l : List Bool) (y : Bool) (hs : a.eval s = .slice A1 n c1) (hx : a.eval x = .slice (some ⟨W.heap.size, 0, none⟩) 1 1)
    (HO : Obl W base A1 n c1 l) (HB : Below base w0 W) (hbase : base ≤ W.heap.size) (hl : n + 1 ≤ 140737488355328)
    (h : ∀ A2 c2 w1, Obl w1 base A2 (n + 1) c2 (l ++ [y]) → Below base w0 w1 → wpList Try.prog ops Q rest (a.put o.dst (.slice A2 (n + 1) c2)) w1) :
    wpList Try.prog ops Q (o :: rest) a (W.alloc (.cells #[.bool y] 4)) := by
  refine wpl_app1 (w0 := w0) base hgd s x 171 4 (.bool false) 1 ho Try.underlying171 infoB rfl (by omega) _ n (blv l) (.bool y) hs hx rfl HO.row HB hbase (by omega) ?_
  intro v1 w1 hown hB _ _
  obtain ⟨A2, c2, rfl⟩ := own_form hown
  exact h A2 c2 w1 ⟨by rw [blv_append]; exact hown, hl⟩ hB

end Go.Proofs.Ytbjfklgmbeaaoaa

set_option linter.unusedVariables false
set_option linter.unusedSimpArgs false
namespace Go.Proofs.Ytbjfklgmbeaaoaa
open Go.RowKit
theorem tba0 : bits .and .u32 0 1 = 0 := by decide
theorem tba1 : bits .and .u32 1 1 = 1 := by decide
theorem tba2 : bits .and .u32 2 1 = 0 := by decide
theorem tba3 : bits .and .u32 3 1 = 1 := by decide
theorem tba4 : bits .and .u32 4 1 = 0 := by decide
theorem tba5 : bits .and .u32 5 1 = 1 := by decide
theorem tba6 : bits .and .u32 6 1 = 0 := by decide
theorem tba7 : bits .and .u32 7 1 = 1 := by decide
theorem tba8 : bits .and .u32 8 1 = 0 := by decide
theorem tba9 : bits .and .u32 9 1 = 1 := by decide
theorem tba10 : bits .and .u32 10 1 = 0 := by decide
theorem tba11 : bits .and .u32 11 1 = 1 := by decide
theorem tba12 : bits .and .u32 12 1 = 0 := by decide
theorem tba13 : bits .and .u32 13 1 = 1 := by decide
theorem tba14 : bits .and .u32 14 1 = 0 := by decide
theorem tba15 : bits .and .u32 15 1 = 1 := by decide
theorem tba16 : bits .and .u32 549293790 1 = 0 := by decide
theorem tba17 : bits .and .u32 549293791 1 = 1 := by decide
theorem tba18 : bits .and .u32 1098587580 1 = 0 := by decide
theorem tba19 : bits .and .u32 1098587581 1 = 1 := by decide
theorem tba20 : bits .and .u32 1098587582 1 = 0 := by decide
theorem tba21 : bits .and .u32 1098587583 1 = 1 := by decide
theorem tba22 : bits .and .u32 1640403810 1 = 0 := by decide
theorem tba23 : bits .and .u32 1640403811 1 = 1 := by decide
theorem tba24 : bits .and .u32 2197175160 0 = 0 := by decide
theorem tba25 : bits .and .u32 2197175160 1 = 0 := by decide
theorem tba26 : bits .and .u32 2197175160 4294967295 = 2197175160 := by decide
theorem tba27 : bits .and .u32 2197175161 1 = 1 := by decide
theorem tba28 : bits .and .u32 2197175162 1 = 0 := by decide
theorem tba29 : bits .and .u32 2197175163 1 = 1 := by decide
theorem tba30 : bits .and .u32 2197175164 1 = 0 := by decide
theorem tba31 : bits .and .u32 2197175165 1 = 1 := by decide
theorem tba32 : bits .and .u32 2197175166 1 = 0 := by decide
theorem tba33 : bits .and .u32 2197175167 1 = 1 := by decide
theorem tba34 : bits .and .u32 2722870694 1 = 0 := by decide
theorem tba35 : bits .and .u32 2722870695 1 = 1 := by decide
theorem tba36 : bits .and .u32 3280807620 1 = 0 := by decide
theorem tba37 : bits .and .u32 3280807621 1 = 1 := by decide
theorem tba38 : bits .and .u32 3280807622 1 = 0 := by decide
theorem tba39 : bits .and .u32 3280807623 1 = 1 := by decide
theorem tba40 : bits .and .u32 3811616794 1 = 0 := by decide
theorem tba41 : bits .and .u32 3811616795 1 = 1 := by decide
theorem tbx0 : bits .xor .u32 0 0 = 0 := by decide
theorem tbx1 : bits .xor .u32 0 2197175160 = 2197175160 := by decide
theorem tbx2 : bits .xor .u32 1 0 = 1 := by decide
theorem tbx3 : bits .xor .u32 1 2197175160 = 2197175161 := by decide
theorem tbx4 : bits .xor .u32 2 0 = 2 := by decide
theorem tbx5 : bits .xor .u32 2 2197175160 = 2197175162 := by decide
theorem tbx6 : bits .xor .u32 3 0 = 3 := by decide
theorem tbx7 : bits .xor .u32 3 2197175160 = 2197175163 := by decide
theorem tbx8 : bits .xor .u32 4 0 = 4 := by decide
theorem tbx9 : bits .xor .u32 4 2197175160 = 2197175164 := by decide
theorem tbx10 : bits .xor .u32 5 0 = 5 := by decide
theorem tbx11 : bits .xor .u32 5 2197175160 = 2197175165 := by decide
theorem tbx12 : bits .xor .u32 6 0 = 6 := by decide
theorem tbx13 : bits .xor .u32 6 2197175160 = 2197175166 := by decide
theorem tbx14 : bits .xor .u32 7 0 = 7 := by decide
theorem tbx15 : bits .xor .u32 7 2197175160 = 2197175167 := by decide
theorem tbx16 : bits .xor .u32 274646895 0 = 274646895 := by decide
theorem tbx17 : bits .xor .u32 274646895 2197175160 = 2460548119 := by decide
theorem tbx18 : bits .xor .u32 549293790 0 = 549293790 := by decide
theorem tbx19 : bits .xor .u32 549293790 2197175160 = 2722870694 := by decide
theorem tbx20 : bits .xor .u32 549293791 0 = 549293791 := by decide
theorem tbx21 : bits .xor .u32 549293791 2197175160 = 2722870695 := by decide
theorem tbx22 : bits .xor .u32 820201905 0 = 820201905 := by decide
theorem tbx23 : bits .xor .u32 820201905 2197175160 = 2987750089 := by decide
theorem tbx24 : bits .xor .u32 1098587580 0 = 1098587580 := by decide
theorem tbx25 : bits .xor .u32 1098587580 2197175160 = 3280807620 := by decide
theorem tbx26 : bits .xor .u32 1098587581 0 = 1098587581 := by decide
theorem tbx27 : bits .xor .u32 1098587581 2197175160 = 3280807621 := by decide
theorem tbx28 : bits .xor .u32 1098587582 0 = 1098587582 := by decide
theorem tbx29 : bits .xor .u32 1098587582 2197175160 = 3280807622 := by decide
theorem tbx30 : bits .xor .u32 1098587583 0 = 1098587583 := by decide
theorem tbx31 : bits .xor .u32 1098587583 2197175160 = 3280807623 := by decide
theorem tbx32 : bits .xor .u32 1361435347 0 = 1361435347 := by decide
theorem tbx33 : bits .xor .u32 1361435347 2197175160 = 3553878443 := by decide
theorem tbx34 : bits .xor .u32 1640403810 0 = 1640403810 := by decide
theorem tbx35 : bits .xor .u32 1640403810 2197175160 = 3811616794 := by decide
theorem tbx36 : bits .xor .u32 1640403811 0 = 1640403811 := by decide
theorem tbx37 : bits .xor .u32 1640403811 2197175160 = 3811616795 := by decide
theorem tbx38 : bits .xor .u32 1905808397 0 = 1905808397 := by decide
theorem tbx39 : bits .xor .u32 1905808397 2197175160 = 4084100981 := by decide
attribute [local go_sem] tba0 tba1 tba2 tba3 tba4 tba5 tba6 tba7 tba8 tba9 tba10 tba11 tba12 tba13 tba14 tba15 tba16 tba17 tba18 tba19 tba20 tba21 tba22 tba23 tba24 tba25 tba26 tba27 tba28 tba29 tba30 tba31 tba32 tba33 tba34 tba35 tba36 tba37 tba38 tba39 tba40 tba41 tbx0 tbx1 tbx2 tbx3 tbx4 tbx5 tbx6 tbx7 tbx8 tbx9 tbx10 tbx11 tbx12 tbx13 tbx14 tbx15 tbx16 tbx17 tbx18 tbx19 tbx20 tbx21 tbx22 tbx23 tbx24 tbx25 tbx26 tbx27 tbx28 tbx29 tbx30 tbx31 tbx32 tbx33 tbx34 tbx35 tbx36 tbx37 tbx38 tbx39

/-- The table, as its bytes stand. -/
def tabL : List Int := [0, 274646895, 549293790, 820201905, 1098587580, 1361435347, 1640403810, 1905808397, 2197175160, 2460548119, 2722870694, 2987750089, 3280807620, 3553878443, 3811616794, 4084100981]
def tab (i : Int) : Int := tabL.getD i.toNat 0
set_option maxHeartbeats 4000000 in
set_option maxRecDepth 100000 in
theorem table_any (w : World) :
    Calls Try.prog 134 #[] w fun e w' => e = .returned (.agg #[.int .u32 0, .int .u32 274646895, .int .u32 549293790, .int .u32 820201905, .int .u32 1098587580, .int .u32 1361435347, .int .u32 1640403810, .int .u32 1905808397, .int .u32 2197175160, .int .u32 2460548119, .int .u32 2722870694, .int .u32 2987750089, .int .u32 3280807620, .int .u32 3553878443, .int .u32 3811616794, .int .u32 4084100981]) ∧ Below w.heap.size w w' := by
  go_enter Try.func134, Try.ntmps134
  go_wp2_with (first | (with_reducible refine wp_loop_rounds 17 ?_) | (with_reducible rw [rounds_succ]))
  refine bodyPost_ret (v := .agg #[.int .u32 0, .int .u32 274646895, .int .u32 549293790, .int .u32 820201905, .int .u32 1098587580, .int .u32 1361435347, .int .u32 1640403810, .int .u32 1905808397, .int .u32 2197175160, .int .u32 2460548119, .int .u32 2722870694, .int .u32 2987750089, .int .u32 3280807620, .int .u32 3553878443, .int .u32 3811616794, .int .u32 4084100981]) (by simp [results, Try.results134, go_sem]) rfl ⟨rfl, ?_⟩
  exact ((Below.refl _ _).alloc (Nat.le_refl _) _).alloc (by simp) _
end Go.Proofs.Ytbjfklgmbeaaoaa

set_option linter.unusedVariables false
set_option linter.unusedSimpArgs false
namespace Go.Proofs.Ytbjfklgmbeaaoaa
open Go.RowKit

theorem bits32_range (op : BinOp) (a b : Int) : 0 ≤ bits op .u32 a b ∧ bits op .u32 a b ≤ 4294967295 := by
  unfold bits
  simp only [IntKind.wrap_u32]
  omega
theorem and15_range (x : Int) : 0 ≤ bits .and .u32 x 15 ∧ bits .and .u32 x 15 < 16 := by
  have h : bits .and .u32 x 15 = (((BitVec.ofInt 32 x) &&& (BitVec.ofInt 32 15)).toNat : Int) % 4294967296 := by
    unfold bits
    simp only [IntKind.wrap_u32]
    rfl
  rw [h, BitVec.toNat_and]
  have h15 : (BitVec.ofInt 32 15).toNat = 15 := by decide
  rw [h15]
  have := @Nat.and_le_right ((BitVec.ofInt 32 x).toNat) 15
  omega

def nib (c x : Int) : Int := bits .xor .u32 (c / 16) (tab (bits .and .u32 (bits .xor .u32 c x) 15))
def byt (c x : Int) : Int := nib (nib c x) (x / 16)
def updL (c : Int) : List UInt8 → Int
  | [] => c
  | x :: xs => updL (byt c (x.toNat : Int)) xs
theorem updL_snoc (c : Int) (xs : List UInt8) (x : UInt8) : updL c (xs ++ [x]) = byt (updL c xs) (x.toNat : Int) := by
  induction xs generalizing c with
  | nil => rfl
  | cons y ys ih => simp only [List.cons_append, updL]; exact ih _
theorem updL_take (c : Int) (xs : List UInt8) (j : Nat) (h : j < xs.length) : updL c (xs.take (j + 1)) = byt (updL c (xs.take j)) (b8 xs j) := by
  rw [List.take_succ_eq_append_getElem h, updL_snoc]
  simp [b8, List.getD_eq_getElem?_getD, List.getElem?_eq_getElem h]
/-- What Update tells. -/
def updI (s : Int) (xs : List UInt8) : Int := bits .xor .u32 4294967295 (updL (bits .xor .u32 4294967295 s) xs)

theorem tab_cells (w : World) (T : TypeId) (i : Int) (h0 : 0 ≤ i) (h1 : i < 16) : (w.alloc (.cells #[.int .u32 0, .int .u32 274646895, .int .u32 549293790, .int .u32 820201905, .int .u32 1098587580, .int .u32 1361435347, .int .u32 1640403810, .int .u32 1905808397, .int .u32 2197175160, .int .u32 2460548119, .int .u32 2722870694, .int .u32 2987750089, .int .u32 3280807620, .int .u32 3553878443, .int .u32 3811616794, .int .u32 4084100981] T)).cell? ⟨w.heap.size, i.toNat, none⟩ = some (.int .u32 (tab i)) := by
  obtain ⟨k, rfl⟩ := Int.eq_ofNat_of_zero_le h0
  have hk : k < 16 := by omega
  simp only [World.cell?, heap_alloc_new]
  rcases k with _|_|_|_|_|_|_|_|_|_|_|_|_|_|_|_|k <;> first | rfl | omega

theorem max32 : IntKind.u32.max = 4294967295 := by decide
attribute [local go_sem] max32

set_option maxHeartbeats 4000000 in
set_option maxRecDepth 100000 in
theorem update_any (s : Int) (A : Option Addr) (n c : Nat) (xs : List UInt8) (w : World) (hb : Bs w A n c xs) :
    Calls Try.prog 126 #[.int .u32 s, .slice A n c] w fun e w' => e = .returned (.int .u32 (updI s xs)) ∧ Below w.heap.size w w' := by
  have hlim := hb.lim
  have hsg : IntKind.u32.signed = false := rfl
  go_enter Try.func126, Try.ntmps126
  go_wp2_with ((go_at_call 134; refine (table_any _).mono ?_; rintro e w1 ⟨rfl, hb1⟩))
  go_loopg [6, 14] n (fun k cv i wr => ∃ (j : Nat) (cc : Int), Aside (k + j = n ∧ cc = updL (bits .xor .u32 4294967295 s) (xs.take j)) ∧ i = .int .i64 (j : Int) ∧ cv = .int .u32 cc ∧ 0 ≤ cc ∧ cc ≤ 4294967295 ∧ Below w.heap.size w wr ∧ Bs wr A n c xs ∧ ∀ i : Int, 0 ≤ i → i < 16 → wr.cell? ⟨w1.heap.size, i.toNat, none⟩ = some (.int .u32 (tab i)))
  case atStart =>
    have hr := bits32_range .xor 4294967295 s
    exact ⟨0, _, ⟨rfl, by simp [updL]⟩, rfl, rfl, hr.1, hr.2, hb1.alloc hb1.size _, (hb.below hb1).alloc _, tab_cells _ _⟩
  case round =>
    obtain ⟨j, cc, hk, rfl, rfl, hc0, hc1, hB, hbs, ht⟩ := hrel
    by_cases hlt : j < n
    · obtain ⟨ad, rfl, hx⟩ := hbs.atN j hlt
      have hx0 := b8_lo xs j
      have hx1 := b8_hi xs j
      obtain ⟨i0, i1⟩ := and15_range (bits .xor .u32 cc (b8 xs j))
      have t1 := ht _ i0 i1
      obtain ⟨n0, n1⟩ := bits32_range .xor (cc / 16) (tab (bits .and .u32 (bits .xor .u32 cc (b8 xs j)) 15))
      obtain ⟨i2, i3⟩ := and15_range (bits .xor .u32 (bits .xor .u32 (cc / 16) (tab (bits .and .u32 (bits .xor .u32 cc (b8 xs j)) 15))) (b8 xs j / 16))
      have t2 := ht _ i2 i3
      have HT : Aside (∀ i : Int, 0 ≤ i → i < 16 → wr.cell? ⟨w1.heap.size, i.toNat, none⟩ = some (.int .u32 (tab i))) := ht
      clear ht
      go_wp2
      go_roundg (n - (j + 1))
      case measure => have := hk.out.1; omega
      case rel =>
        have hr := bits32_range .xor (nib cc (b8 xs j) / 16) (tab (bits .and .u32 (bits .xor .u32 (nib cc (b8 xs j)) (b8 xs j / 16)) 15))
        refine ⟨j + 1, byt cc (b8 xs j), ⟨by omega, ?_⟩, by go_num, rfl, hr.1, hr.2, hB, hbs, HT.out⟩
        rw [hk.out.2, updL_take _ _ _ (by rw [hbs.len]; exact hlt)]
    · go_wp2
      go_ret
      obtain ⟨h1, rfl⟩ := hk.out
      obtain rfl : j = n := by omega
      refine ⟨?_, hB⟩
      rw [← hb.len, List.take_length]
      rfl
end Go.Proofs.Ytbjfklgmbeaaoaa

set_option linter.unusedVariables false
set_option linter.unusedSimpArgs false
namespace Go.Proofs.Ytbjfklgmbeaaoaa
open Go.RowKit

set_option maxHeartbeats 1000000 in
theorem clone8_any (A : Option Addr) (n c : Nat) (xs : List UInt8) (w : World) (hb : Bs w A n c xs) :
    Calls Try.prog 49 #[.slice A n c] w fun e w' => ∃ A' c', e = .returned (.slice A' n c') ∧ Ow w' w.heap.size A' n c' xs ∧ Below w.heap.size w w' := by
  have hlim := hb.lim
  have hnil := fun W => Lib.run_eql_slice_nil (P := Try.prog) W 27 5 A n c 0 0 Try.underlying27
  go_enter Try.func49, Try.ntmps49
  rcases A with _ | ad
  · have h0 : n = 0 := by
      rcases Nat.eq_zero_or_pos n with h | h
      · exact h
      · obtain ⟨ad, h, _⟩ := hb.cells h
        cases h
    subst h0
    obtain rfl : xs = [] := List.eq_nil_of_length_eq_zero hb.len
    go_wp2_with fail
    all_goals (go_ret; exact ⟨none, 0, rfl, Ow.nil _ _, Below.refl _ _⟩)
  · have HO : Ow (w.alloc (.cells #[] 5)) w.heap.size (some ⟨w.heap.size, 0, none⟩) 0 0 [] :=
      ⟨by simpa [u8v] using World.ownsRow_lit (base := w.heap.size) (e := 5) (size := 1) w #[] 0 (Nat.le_refl _) (by simp [maxLen]) (by simp), by omega⟩
    have HO' := Aside0.mk HO
    clear HO
    go_wp2_with (at_builtin; (refine wpl_app8 (w0 := w) w.heap.size rfl _ _ rfl _ 0 0 [] (some ad) n c xs rfl rfl HO'.out (hb.alloc _) ((Below.refl _ _).alloc (Nat.le_refl _) _) (by simp) (by omega) ?_); intro A2 c2 w1 hO hB hg hat)
    go_ret
    simp only [Nat.zero_add, List.nil_append] at hO ⊢
    exact ⟨A2, c2, rfl, hO, hB⟩

set_option maxHeartbeats 1000000 in
theorem has_any (A : Option Addr) (n c : Nat) (at_ : Int) (w : World) (hl : n ≤ 140737488355328) :
    Calls Try.prog 108 #[.slice A n c, .int .i64 at_] w fun e w' => e = .returned (.bool (decide (0 ≤ at_ ∧ at_ ≤ (n : Int) - 4))) ∧ w = w' := by
  by_cases h : 0 ≤ at_
  · have h' : decide (0 ≤ at_) = true := decide_eq_true h
    go_enter Try.func108, Try.ntmps108
    go_wp2
    go_ret
    exact ⟨by simp [h], rfl⟩
  · have h' : decide (0 ≤ at_) = false := decide_eq_false h
    go_enter Try.func108, Try.ntmps108
    go_wp2
    go_ret
    exact ⟨by simp [h], rfl⟩

set_option maxHeartbeats 1000000 in
theorem of_any (A : Option Addr) (n c : Nat) (xs : List UInt8) (w : World) (hb : Bs w A n c xs) :
    Calls Try.prog 127 #[.slice A n c] w fun e w' => e = .returned (.int .u32 (updI 0 xs)) ∧ Below w.heap.size w w' := by
  go_enter Try.func127, Try.ntmps127
  go_wp2_with (go_at_call 126; refine (update_any 0 A n c xs _ hb).mono ?_; rintro e w1 ⟨rfl, hB⟩)
  go_ret
  exact ⟨rfl, hB⟩

set_option maxHeartbeats 1000000 in
theorem others_any (A : Option Addr) (n c : Nat) (xs : List UInt8) (at_ : Nat) (w : World) (hb : Bs w A n c xs) (h1 : at_ + 4 ≤ n) :
    Calls Try.prog 112 #[.slice A n c, .int .i64 (at_ : Int)] w fun e w' => e = .returned (.int .u32 (updI (updI 0 (xs.take at_)) (xs.drop (at_ + 4)))) ∧ Below w.heap.size w w' := by
  have hlim := hb.lim
  have hcc := hb.le
  have c1 : (at_ : Int) ≤ (c : Int) := by omega
  have c2 : (at_ : Int) + 4 ≤ (n : Int) := by omega
  have H1 := Aside0.mk (hb.take at_ (by omega))
  have H2 := Aside0.mk (hb.drop (at_ + 4) (by omega))
  have s1 := fun W => sl8_h W A n c .i64 (at_ : Int) (by omega) c1
  have s2 := fun W => sl8_l W A n c .i64 ((at_ : Int) + 4) (by omega) c2
  have e2 : ((at_ : Int) + 4).toNat = at_ + 4 := by omega
  simp only [Int.toNat_natCast, e2] at s1 s2
  clear e2
  have hw : IntKind.i64.wrap ((at_ : Int) + 4) = (at_ : Int) + 4 := IntWalk.i64_in _ (by omega)
  go_enter Try.func112, Try.ntmps112
  go_wp2_with fail
  go_region_with (first | (go_at_call 127; refine (of_any _ _ _ _ _ (H1.out.drewN 1)).mono ?_; rintro e w1 ⟨rfl, hB⟩) | (go_at_call 126; refine (update_any _ _ _ _ _ _ ((H2.out.drewN 1).below hB)).mono ?_; rintro e w2 ⟨rfl, hB2⟩))
  go_wp2
  go_ret
  exact ⟨rfl, below_then ((below_drawn (Below.refl _ _) 1).trans hB) hB.size hB2⟩

set_option maxHeartbeats 1000000 in
theorem equal8_any (A : Option Addr) (n c : Nat) (xs : List UInt8) (A' : Option Addr) (n' c' : Nat) (ys : List UInt8) (w : World) (hb : Bs w A n c xs) (hb' : Bs w A' n' c' ys) :
    Calls Try.prog 20 #[.slice A n c, .slice A' n' c'] w fun e w' => e = .returned (.bool (xs == ys)) ∧ w = w' := by
  have h1 := conv8 hb
  have h2 := conv8 hb'
  go_enter Try.func20, Try.ntmps20
  go_wp2
  go_ret
  exact ⟨ret_bool (by simp only [strB_list]), rfl⟩

theorem getD_b8 {xs ys : List UInt8} {j : Nat} (h : b8 xs j = b8 ys j) (h1 : j < xs.length) (h2 : j < ys.length) : xs[j] = ys[j] := by
  simp only [b8, List.getD_eq_getElem?_getD, List.getElem?_eq_getElem h1, List.getElem?_eq_getElem h2, Option.getD_some] at h
  exact UInt8.toNat_inj.mp (by omega)
theorem beq_false_of_b8 {xs ys : List UInt8} {j : Nat} (h : b8 xs j ≠ b8 ys j) : (xs == ys) = false := by
  rw [beq_eq_false_iff_ne]
  rintro rfl
  exact h rfl

set_option maxHeartbeats 1000000 in
theorem sequal8_any (A : Option Addr) (n c : Nat) (xs : List UInt8) (A' : Option Addr) (n' c' : Nat) (ys : List UInt8) (w : World) (hb : Bs w A n c xs) (hb' : Bs w A' n' c' ys) :
    Calls Try.prog 109 #[.slice A n c, .slice A' n' c'] w fun e w' => e = .returned (.bool (xs == ys)) ∧ ∃ m, w' = w.drewN m := by
  have hlim := hb.lim
  by_cases hn : n = n'
  · subst hn
    have hl := Aside0.mk (And.intro hb.len hb'.len)
    go_enter Try.func109, Try.ntmps109
    go_wp2
    go_loopg [13] n (fun k i wr => ∃ (j m : Nat), Aside (k + j = n ∧ xs.take j = ys.take j) ∧ i = .int .i64 (j : Int) ∧ wr = w.drewN m)
    case atStart => exact ⟨0, 0, ⟨rfl, by simp⟩, rfl, rfl⟩
    case round =>
      obtain ⟨j, m, hk, rfl, rfl⟩ := hrel
      by_cases hlt : j < n
      · obtain ⟨ad, rfl, hx⟩ := hb.atN j hlt
        obtain ⟨ad', rfl, hx'⟩ := hb'.atN j hlt
        go_wp2
        go_quiet (fail)
        by_cases he : b8 xs j = b8 ys j
        · have h1 : (b8 xs j == b8 ys j) = true := beq_iff_eq.mpr he
          have h2 : (b8 xs j != b8 ys j) = false := bne_eq_false_iff_eq.mpr he
          have he' := Aside0.mk he
          clear he
          go_wp2
          go_roundg (n - (j + 1))
          case measure => have := hk.out.1; omega
          case rel =>
            obtain ⟨h3, h4⟩ := hk.out
            obtain ⟨l1, l2⟩ := hl.out
            refine ⟨j + 1, m + nq, ⟨by omega, ?_⟩, by go_num, by first | rfl | rw [World.drewN_drewN]⟩
            rw [List.take_succ_eq_append_getElem (by omega), List.take_succ_eq_append_getElem (by omega), h4, getD_b8 he'.out (by omega) (by omega)]
        · have h1 : (b8 xs j == b8 ys j) = false := beq_eq_false_iff_ne.mpr he
          have h2 : (b8 xs j != b8 ys j) = true := bne_iff_ne.mpr he
          have he' := Aside0.mk he
          clear he
          go_wp2
          go_ret
          exact ⟨ret_bool (beq_false_of_b8 he'.out).symm, m + nq, by first | rfl | rw [World.drewN_drewN]⟩
      · go_wp2
        go_ret
        obtain ⟨h3, h4⟩ := hk.out
        obtain ⟨l1, l2⟩ := hl.out
        obtain rfl : j = n := by omega
        refine ⟨ret_bool ?_, m, rfl⟩
        have e1 : xs.take j = xs := List.take_of_length_le (by omega)
        have e2 : ys.take j = ys := List.take_of_length_le (by omega)
        rw [e1, e2] at h4
        rw [h4]
        simp
  · have h1 : ((n : Int) == (n' : Int)) = false := by simp; omega
    have h2 : ((n : Int) != (n' : Int)) = true := by simp; omega
    have h3 : (n == n') = false := by simp; omega
    have h4 : (xs == ys) = false := by
      rw [beq_eq_false_iff_ne]
      rintro rfl
      exact hn (hb.len.symm.trans hb'.len)
    go_enter Try.func109, Try.ntmps109
    go_wp2
    go_ret
    exact ⟨ret_bool h4.symm, 0, rfl⟩

end Go.Proofs.Ytbjfklgmbeaaoaa

set_option linter.unusedVariables false
set_option linter.unusedSimpArgs false
namespace Go.Proofs.Ytbjfklgmbeaaoaa
open Go.RowKit

/-- A world in which everything that was there is as it was. -/
def Ext (w : World) : Type := { x : World // Below w.heap.size w x }
instance (w : World) : Nonempty (Ext w) := ⟨⟨w, Below.refl _ _⟩⟩
def Ext.w {w : World} (k : Ext w) : World := k.1
theorem Ext.bel {w : World} (k : Ext w) : Below w.heap.size w k.w := k.2
theorem Bs.ext {w : World} {A : Option Addr} {n c : Nat} {xs : List UInt8} (h : Bs w A n c xs) (k : Ext w) : Bs k.w A n c xs := h.below k.bel
theorem cell_ext {w : World} {a : Addr} {v : Value} (h : w.cell? a = some v) : ∀ k : Ext w, k.w.cell? a = some v := fun k => cell_below k.bel h
theorem wp_region_ext {P : Program} {id : Nat} {Q : Exit → Act → World → Prop} {a : Act} {w : World} {l : List Oper} (hm : P.follows .mixedOrders = true) (hB : Region.lexB .any l.toArray = true)
    (h : wpQuiet P l.toArray (fun w' => ∃ k : Ext w, w' = k.w) (fun a' => ∀ w', (∃ k : Ext w, w' = k.w) → Q .normal a' w') l a) : (Code.region id l.toArray true).wp P Q a w :=
  wp_region_quiet (C := fun w' => ∃ k : Ext w, w' = k.w) hm hB ⟨⟨w.drew, below_drew (Below.refl _ _)⟩, rfl⟩ (by simpa using h)
theorem Calls.ext_of {P : Program} {f : FuncId} {args : Array Value} {w : World} {k : Ext w} {v : Value} (h : Calls P f args k.w fun e w' => e = .returned v ∧ Below k.w.heap.size k.w w') :
    Calls P f args k.w fun e w'' => e = .returned v ∧ ∃ k' : Ext w, w'' = k'.w :=
  h.mono fun _ w' ⟨he, hb⟩ => ⟨he, ⟨w', below_then k.bel k.bel.size hb⟩, rfl⟩
theorem Calls.ext_same {P : Program} {f : FuncId} {args : Array Value} {w : World} {k : Ext w} {v : Value} (h : Calls P f args k.w fun e w' => e = .returned v ∧ k.w = w') :
    Calls P f args k.w fun e w'' => e = .returned v ∧ ∃ k' : Ext w, w'' = k'.w :=
  h.mono fun _ w' ⟨he, hb⟩ => ⟨he, k, hb.symm⟩
theorem Calls.ext_drew {P : Program} {f : FuncId} {args : Array Value} {w : World} {k : Ext w} {v : Value} (h : Calls P f args k.w fun e w' => e = .returned v ∧ ∃ m, w' = k.w.drewN m) :
    Calls P f args k.w fun e w'' => e = .returned v ∧ ∃ k' : Ext w, w'' = k'.w :=
  h.mono fun _ w' ⟨he, m, hb⟩ => ⟨he, ⟨w', by rw [hb]; exact below_drawn k.bel m⟩, rfl⟩

end Go.Proofs.Ytbjfklgmbeaaoaa

set_option linter.unusedVariables false
set_option linter.unusedSimpArgs false
namespace Go.Proofs.Ytbjfklgmbeaaoaa
open Go.RowKit

section
variable {P : Program} {ops : Array Oper} {Q : Exit → Act → World → Prop} {md : Region.Mode} {S : World → Prop} {p : Nat → Bool}
/-- Whatever order is picked from here on; S holds behind every operation of the choice. -/
def wpAnyM (P : Program) (md : Region.Mode) (ops : Array Oper) (Q : Exit → Act → World → Prop) (S : World → Prop) (p : Nat → Bool) : Nat → Array Bool → Act → World → Prop
  | 0, listed, a, w => Region.ready md ops listed = [] ∧ Q .normal a w
  | fuel + 1, listed, a, w =>
    (Region.ready md ops listed = [] → Q .normal a w) ∧
    ∀ i ∈ Region.ready md ops listed, wpOp P ops Q i (fun a' w' => (p i = true → S w') ∧ wpAnyM P md ops Q S p fuel (listed.setIfInBounds i true) a' w') a w
theorem wpAny_of_heldM : ∀ (fuel : Nat) (listed : Array Bool) (a : Act) (w : World), wpAnyM P md ops Q S p fuel listed a w → wpAny P md ops Q fuel listed a w
  | 0, _, _, _, h => h
  | fuel + 1, _, _, _, h => ⟨h.1, fun i hi => wpOp_mono (fun a' w' h' => wpAny_of_heldM fuel _ a' w' h'.2) (h.2 i hi)⟩
/-- What waits, directly or through others, for operation i. -/
def waitD (md : Region.Mode) (ops : Array Oper) (listed : Array Bool) (i : Nat) : List Nat :=
  (List.range ops.size).foldl (fun D j => if (!listed.getD j true) && (match ops[j]? with | some o => o.after.any fun e => Region.binds md e && (e.on == i || D.contains e.on) | none => false) then j :: D else D) []
def waitB (md : Region.Mode) (ops : Array Oper) (listed : Array Bool) (i : Nat) (D : List Nat) (p : Nat → Bool) : Bool :=
  (D.all fun j => (!listed.getD j true) && (match ops[j]? with | some o => o.after.any fun e => Region.binds md e && (e.on == i || D.contains e.on) | none => false)) && (!listed.getD i true) &&
  ((List.range ops.size).all fun j => p j || j == i || listed.getD j true || D.contains j)
structure Waits (md : Region.Mode) (ops : Array Oper) (listed : Array Bool) (i : Nat) (D : List Nat) (p : Nat → Bool) : Prop where
  un : ∀ j ∈ D, listed.getD j true = false
  dep : ∀ j ∈ D, ∃ o, ops[j]? = some o ∧ ∃ e ∈ o.after, Region.binds md e = true ∧ (e.on = i ∨ e.on ∈ D)
  ui : listed.getD i true = false
  all : ∀ j o, ops[j]? = some o → listed.getD j true = false → j ≠ i → p j = true ∨ j ∈ D
theorem waits_of {listed : Array Bool} {i : Nat} {D : List Nat} (h : waitB md ops listed i D p = true) : Waits md ops listed i D p := by
  unfold waitB at h
  simp only [Bool.and_eq_true, List.all_eq_true, Bool.not_eq_true', List.mem_range] at h
  obtain ⟨⟨h1, h2⟩, h3⟩ := h
  refine ⟨fun j hj => (h1 j hj).1, fun j hj => ?_, h2, fun j o ho hu hne => ?_⟩
  · have := (h1 j hj).2
    split at this
    · rename_i o ho
      obtain ⟨e, he, hb⟩ := Array.any_eq_true'.1 this
      simp only [Bool.and_eq_true, Bool.or_eq_true, beq_iff_eq, List.contains_iff_mem] at hb
      exact ⟨o, ho, e, he, hb.1, hb.2⟩
    · cases this
  · have := h3 j (Array.getElem?_eq_some_iff.1 ho).1
    simp only [Bool.or_eq_true, beq_iff_eq, List.contains_iff_mem] at this
    rcases this with ((q | q) | q) | q
    · exact .inl q
    · exact absurd q hne
    · rw [hu] at q; cases q
    · exact .inr q
theorem getD_flip {listed : Array Bool} {i : Nat} (h : listed.getD i true = false) : listed.getD i false = false := by
  rcases Nat.lt_or_ge i listed.size with h' | h'
  · simp [h'] at h ⊢; exact h
  · simp [Array.getElem?_eq_none h'] at h
theorem Waits.not {listed : Array Bool} {i : Nat} {D : List Nat} (h : Waits md ops listed i D p) {j : Nat} (hj : j ∈ D) : j ∉ Region.ready md ops listed := fun hr => by
  obtain ⟨_, oj, hoj, hall⟩ := mem_ready.1 hr
  obtain ⟨o, ho, e, he, hb, hc⟩ := h.dep j hj
  have : o = oj := Option.some.inj (ho.symm.trans hoj)
  subst this
  have h2 := hall e he hb
  rcases hc with hc | hc
  · rw [hc, getD_flip h.ui] at h2; cases h2
  · rw [getD_flip (h.un _ hc)] at h2; cases h2
theorem Waits.set {listed : Array Bool} {i : Nat} {D : List Nat} (h : Waits md ops listed i D p) {j : Nat} (hr : j ∈ Region.ready md ops listed) (hji : j ≠ i) : Waits md ops (listed.setIfInBounds j true) i D p :=
  ⟨fun k hk => by rw [getD_set_ne true (show j ≠ k from fun e => h.not hk (by rw [← e]; exact hr))]; exact h.un k hk, h.dep, by rw [getD_set_ne true hji]; exact h.ui, fun k o ho hu hne => by
    by_cases e : j = k
    · subst e
      exact (h.all j o ho (mem_ready.1 hr).1 hji)
    · rw [getD_set_ne true e] at hu
      exact h.all k o ho hu hne⟩
theorem wpAnyM_first {i : Nat} {oi : Oper} {v : Value} {D : List Nat} (hi : ops[i]? = some oi) (hsel : ∀ (j : Nat) (o : Oper) cs b, ops[j]? = some o → o.op ≠ .select cs b)
    (hQ : ∀ c a w, Q (.panic c) (a.put oi.dst v) w → Q (.panic c) a w) :
    ∀ (fuel : Nat) (listed : Array Bool) (a : Act) (w : World), Waits md ops listed i D p →
      (∀ j oj, ops[j]? = some oj → j ≠ i → listed.getD j true = false → (∀ e ∈ oj.after, Region.binds md e = true → e.on ≠ i) → oi.apart ops oj = true) →
      i ∈ Region.ready md ops listed → YieldsIf P ops S oi v a → S w →
      wpAnyM P md ops Q S p fuel (listed.setIfInBounds i true) (a.put oi.dst v) w → wpAnyM P md ops Q S p (fuel + 1) listed a w := by
  intro fuel
  induction fuel with
  | zero =>
    intro listed a w _ _ hr hy hS H
    refine ⟨fun h => (by rw [h] at hr; cases hr), fun j hj => ?_⟩
    by_cases hji : j = i
    · subst hji; exact hy.wpOp hi hS ⟨fun _ => hS, H⟩
    · have := ready_mono hj hji
      rw [H.1] at this
      cases this
  | succ fuel ih =>
    intro listed a w hwt hfree hr hy hS H
    refine ⟨fun h => (by rw [h] at hr; cases hr), fun j hj => ?_⟩
    by_cases hji : j = i
    · subst hji; exact hy.wpOp hi hS ⟨fun _ => hS, H⟩
    · have h1 := H.2 j (ready_mono hj hji)
      obtain ⟨hjun, oj, hoj, hall⟩ := mem_ready.1 hj
      have hnot : ∀ e ∈ oj.after, Region.binds md e = true → e.on ≠ i := fun e he hb heq => by
        have h1 := hall e he hb
        have h0 := (mem_ready.1 hr).1
        rw [heq] at h1
        rcases Nat.lt_or_ge i listed.size with h' | h'
        · simp [h'] at h0 h1; rw [h0] at h1; cases h1
        · simp [Array.getElem?_eq_none h'] at h1
      have h2 := wpOp_putIf hoj (hfree j oj hoj hji hjun hnot) (fun cs b => hsel i oi cs b hi) (fun cs b => hsel j oj cs b hoj) hQ hy h1
      have hfree' : ∀ k ok, ops[k]? = some ok → k ≠ i → (listed.setIfInBounds j true).getD k true = false →
          (∀ e ∈ ok.after, Region.binds md e = true → e.on ≠ i) → oi.apart ops ok = true := fun k ok hk hki hun hno => by
        refine hfree k ok hk hki ?_ hno
        by_cases hjk : j = k
        · subst hjk; exact hjun
        · rw [getD_set_ne true hjk] at hun; exact hun
      have hpj : p j = true := (hwt.all j oj hoj hjun hji).resolve_right (fun q => hwt.not q hj)
      refine wpOp_mono (fun a' w' h3 => ⟨fun _ => h3.2.1 hpj, ih (listed.setIfInBounds j true) a' w' (hwt.set hj hji) hfree' (ready_mono hr (Ne.symm hji)) h3.1 (h3.2.1 hpj) ?_⟩) h2
      rw [Array.setIfInBounds_comm _ _ hji]
      exact h3.2.2
/-- Take number i first. -/
theorem wpAnyM_take {i : Nat} {oi : Oper} {v : Value} {fuel : Nat} {listed : Array Bool} {a : Act} {w : World} (hi : ops[i]? = some oi)
    (hs : Region.noSelect ops = true) (hf : Region.free md ops listed i = true) (hr : (Region.ready md ops listed).contains i = true) (hw : waitB md ops listed i (waitD md ops listed i) p = true)
    (hQ : ∀ c a w, Q (.panic c) (a.put oi.dst v) w → Q (.panic c) a w) (hy : YieldsIf P ops S oi v a) (hS : S w)
    (h : wpAnyM P md ops Q S p fuel (listed.setIfInBounds i true) (a.put oi.dst v) w) : wpAnyM P md ops Q S p (fuel + 1) listed a w :=
  wpAnyM_first hi (Region.noSelect_spec hs) hQ fuel listed a w (waits_of hw) (Region.free_spec hi hf) (by simpa using hr) hy hS h
theorem wpAnyM_first0 {i : Nat} {oi : Oper} {v : Value} (hi : ops[i]? = some oi) (hsel : ∀ (j : Nat) (o : Oper) cs b, ops[j]? = some o → o.op ≠ .select cs b)
    (hQ : ∀ c a w, Q (.panic c) (a.put oi.dst v) w → Q (.panic c) a w) (hp : p i = false) :
    ∀ (fuel : Nat) (listed : Array Bool) (a : Act) (w : World),
      (∀ j oj, ops[j]? = some oj → j ≠ i → listed.getD j true = false → (∀ e ∈ oj.after, Region.binds md e = true → e.on ≠ i) → oi.apart ops oj = true) →
      i ∈ Region.ready md ops listed → YieldsIf P ops (fun _ => True) oi v a →
      wpAnyM P md ops Q S p fuel (listed.setIfInBounds i true) (a.put oi.dst v) w → wpAnyM P md ops Q S p (fuel + 1) listed a w := by
  intro fuel
  induction fuel with
  | zero =>
    intro listed a w _ hr hy H
    refine ⟨fun h => (by rw [h] at hr; cases hr), fun j hj => ?_⟩
    by_cases hji : j = i
    · subst hji; exact hy.wpOp hi trivial ⟨fun q => (by rw [hp] at q; cases q), H⟩
    · have := ready_mono hj hji
      rw [H.1] at this
      cases this
  | succ fuel ih =>
    intro listed a w hfree hr hy H
    refine ⟨fun h => (by rw [h] at hr; cases hr), fun j hj => ?_⟩
    by_cases hji : j = i
    · subst hji; exact hy.wpOp hi trivial ⟨fun q => (by rw [hp] at q; cases q), H⟩
    · have h1 := H.2 j (ready_mono hj hji)
      obtain ⟨hjun, oj, hoj, hall⟩ := mem_ready.1 hj
      have hnot : ∀ e ∈ oj.after, Region.binds md e = true → e.on ≠ i := fun e he hb heq => by
        have h1 := hall e he hb
        have h0 := (mem_ready.1 hr).1
        rw [heq] at h1
        rcases Nat.lt_or_ge i listed.size with h' | h'
        · simp [h'] at h0 h1; rw [h0] at h1; cases h1
        · simp [Array.getElem?_eq_none h'] at h1
      have h2 := wpOp_putIf hoj (hfree j oj hoj hji hjun hnot) (fun cs b => hsel i oi cs b hi) (fun cs b => hsel j oj cs b hoj) hQ hy h1
      have hfree' : ∀ k ok, ops[k]? = some ok → k ≠ i → (listed.setIfInBounds j true).getD k true = false →
          (∀ e ∈ ok.after, Region.binds md e = true → e.on ≠ i) → oi.apart ops ok = true := fun k ok hk hki hun hno => by
        refine hfree k ok hk hki ?_ hno
        by_cases hjk : j = k
        · subst hjk; exact hjun
        · rw [getD_set_ne true hjk] at hun; exact hun
      refine wpOp_mono (fun a' w' h3 => ⟨fun q => h3.2.1 q, ih (listed.setIfInBounds j true) a' w' hfree' (ready_mono hr (Ne.symm hji)) h3.1 ?_⟩) h2
      rw [Array.setIfInBounds_comm _ _ hji]
      exact h3.2.2
/-- Take number i first, that yields its value in whatever world. -/
theorem wpAnyM_take0 {i : Nat} {oi : Oper} {v : Value} {fuel : Nat} {listed : Array Bool} {a : Act} {w : World} (hi : ops[i]? = some oi)
    (hs : Region.noSelect ops = true) (hf : Region.free md ops listed i = true) (hr : (Region.ready md ops listed).contains i = true) (hp : p i = false)
    (hQ : ∀ c a w, Q (.panic c) (a.put oi.dst v) w → Q (.panic c) a w) (hy : YieldsIf P ops (fun _ => True) oi v a)
    (h : wpAnyM P md ops Q S p fuel (listed.setIfInBounds i true) (a.put oi.dst v) w) : wpAnyM P md ops Q S p (fuel + 1) listed a w :=
  wpAnyM_first0 hi (Region.noSelect_spec hs) hQ hp fuel listed a w (Region.free_spec hi hf) (by simpa using hr) hy h
theorem wpAnyM_done {listed : Array Bool} {a : Act} {w : World} (hr : Region.ready md ops listed = []) (h : Q .normal a w) : ∀ fuel, wpAnyM P md ops Q S p fuel listed a w
  | 0 => ⟨hr, h⟩
  | _ + 1 => ⟨fun _ => h, by rw [hr]; simp⟩
/-- One alone may come up, and writes. -/
theorem wpAnyM_one {i : Nat} {o : Oper} {fuel : Nat} {listed : Array Bool} {a : Act} {w : World} (hr : Region.ready md ops listed = [i]) (ho : ops[i]? = some o)
    (h : wpList P ops (fun e a' w' => e = .normal ∧ (p i = true → S w') ∧ wpAnyM P md ops Q S p fuel (listed.setIfInBounds i true) a' w') [o] a w) : wpAnyM P md ops Q S p (fuel + 1) listed a w := by
  refine ⟨fun q => (by rw [hr] at q; cases q), fun j hj => ?_⟩
  rw [hr] at hj
  obtain rfl : j = i := by simpa using hj
  unfold wpOp
  simp only [ho]
  rw [wpList] at h
  split at h
  · rename_i hw
    rw [if_pos hw]
    rcases h with h | ⟨_, _, _, h, _⟩
    · refine .inl ?_
      unfold Oper.wp at *
      generalize (execOp a.eval o).run P w = r at *
      cases r with
      | ok n w' =>
        cases n <;> simp only [Oper.upon] at h ⊢ <;>
          first
            | exact h.2
            | exact Calls.mono h (fun e w'' he => by
                cases e <;> first | exact he.2 | exact absurd he.1 (by intro h; cases h) | (obtain ⟨_, _, he, _⟩ := he; cases he))
            | exact Rows.mono h (fun u w'' he => he.2)
      | halt x w' => cases x <;> simp only [Oper.upon] at h ⊢ <;> first | exact h | exact absurd h.1 (by intro h; cases h)
    · cases h
  · rename_i hw
    rw [if_neg hw]
    exact h.2
/-- The beginning: from the world behind the draw. -/
theorem wp_region_M {id : Nat} {a : Act} {w : World} (p : Nat → Bool) (S : World → Prop) (hm : P.follows .mixedOrders = true)
    (h : wpAnyM P .any ops Q S p ops.size (Array.replicate ops.size false) a w.drew) : (Code.region id ops true).wp P Q a w :=
  wp_region_any hm (wpAny_of_heldM _ _ _ _ h)
end
/-! Single operations. -/
theorem run_loadVar_at {P : Program} (w : World) (a : Addr) (ty : TypeId) (cs : List Value) (d : TypeDesc) (hc : ∀ j v, cs[j]? = some v → w.cell? (a.add j) = some v)
    (hu : P.underlying ty = some d) (hd : d.isRow = true) (hi : (P.info? ty).map (·.size) = some cs.length) : (loadVar ty a).run P w = .ok (.agg cs.toArray) w := by
  have hl := run_loadCells_list (P := P) w a cs hc
  obtain ⟨i, hq, hs⟩ := Option.map_eq_some_iff.1 hi
  have hz : (sizeOf ty).run P w = .ok cs.length w := by simp [sizeOf, typeInfo, hq, hs]
  have ha : (isAgg ty).run P w = .ok true w := by
    unfold isAgg
    rw [Sem.run_bind, run_underlying hu, Result.andThen_ok]
    cases d <;> first | rfl | (exact absurd hd (by decide)) | (simp [TypeDesc.isRow] at hd)
  unfold loadVar
  simp only [Sem.run_bind, ha, Result.andThen_ok, if_true, hz, hl, Sem.run_pure]
theorem yieldsIf_load_at {P : Program} {ops : Array Oper} {S : World → Prop} {op : Oper} {a : Act} (hw : Region.wanted op (yielded ops a.tmps) = true) (ty : TypeId) (x : Operand) (ho : op.op = .load ty x)
    (ad : Addr) (hx : a.eval x = .pointer (some ad)) (cs : List Value) (d : TypeDesc) (hS : ∀ w, S w → ∀ j v, cs[j]? = some v → w.cell? (ad.add j) = some v)
    (hu : P.underlying ty = some d) (hd : d.isRow = true) (hi : (P.info? ty).map (·.size) = some cs.length) : YieldsIf P ops S op (.agg cs.toArray) a :=
  .inl ⟨hw, fun w hw' => by
    unfold execOp
    simp only [ho, hx, Instr.loadAt, Instr.sureAddr, Sem.run_bind, Sem.run_pure, Result.andThen_ok, run_loadVar_at w ad ty cs d (hS w hw') hu hd hi]⟩
theorem wpl_op {P : Program} {ops : Array Oper} {Q : Exit → Act → World → Prop} {o : Oper} {rest : List Oper} {a : Act} {w : World} (hw : Region.wanted o (yielded ops a.tmps) = true) (h : Oper.wp P o a w (wpList P ops Q rest) Q) : wpList P ops Q (o :: rest) a w := by
  rw [wpList, if_pos hw]
  exact .inl h
theorem yieldsIf_build_at {P : Program} {ops : Array Oper} {S : World → Prop} {op : Oper} {a : Act} (hw : Region.wanted op (yielded ops a.tmps) = true) (T : TypeId) (parts : Array (Nat × Operand)) (ho : op.op = .build T parts)
    (vals : Array (Nat × Value)) (v : Value) (hp : (parts.map fun (i, x) => (i, a.eval x)) = vals) (hr : ∀ w, (Instr.build T vals).run P w = .ok v w) : YieldsIf P ops S op v a :=
  .inl ⟨hw, fun w _ => by
    subst hp
    unfold execOp
    simp only [ho, Sem.run_bind, hr w, Result.andThen_ok, Sem.run_pure]⟩
theorem wpl_nil {P : Program} {ops : Array Oper} {Q : Exit → Act → World → Prop} {a : Act} {w : World} (h : Q .normal a w) : wpList P ops Q [] a w := h
/-- One cell more is written. -/
theorem put_shift (cs : Array Value) (o : Nat) (v : Value) (r : List Value) (ho : o + (r.length + 1) ≤ cs.size) :
    ((cs.setIfInBounds o v).toList.take (o + 1) ++ (r ++ (cs.setIfInBounds o v).toList.drop (o + 1 + r.length))) = cs.toList.take o ++ (v :: r ++ cs.toList.drop (o + (r.length + 1))) := by
  apply List.ext_getElem?
  intro i
  have hl1 : (List.take (o + 1) (cs.setIfInBounds o v).toList).length = o + 1 := by simp; omega
  have hl2 : (List.take o cs.toList).length = o := by simp; omega
  rw [Array.toList_setIfInBounds] at hl1 ⊢
  rcases Nat.lt_trichotomy i o with hi | hi | hi
  · rw [List.getElem?_append_left (by omega), List.getElem?_append_left (by omega), List.getElem?_take_of_lt (by omega), List.getElem?_take_of_lt hi, List.getElem?_set_ne (by omega)]
  · subst hi
    rw [List.getElem?_append_left (by omega), List.getElem?_take_of_lt (by omega), List.getElem?_append_right (by omega), hl2, Nat.sub_self, List.getElem?_set_self (by simp; omega)]
    rfl
  · have L1 : ∀ R1 : List Value, (List.take (o + 1) (cs.toList.set o v) ++ R1)[i]? = R1[i - (o + 1)]? := fun R1 => by rw [List.getElem?_append_right (by omega), hl1]
    have L2 : ∀ R2 : List Value, (List.take o cs.toList ++ (v :: r ++ R2))[i]? = (r ++ R2)[i - (o + 1)]? := fun R2 => by rw [List.getElem?_append_right (by omega), hl2, show i - o = (i - (o + 1)) + 1 by omega, List.cons_append, List.getElem?_cons_succ]
    rw [L1, L2]
    rcases Nat.lt_or_ge (i - (o + 1)) r.length with hr | hr
    · rw [List.getElem?_append_left hr, List.getElem?_append_left hr]
    · rw [List.getElem?_append_right hr, List.getElem?_append_right hr, List.getElem?_drop, List.getElem?_drop, List.getElem?_set_ne (by omega)]
      congr 1
      omega
theorem foldl_put : ∀ (l : List Value) (k off : Nat) (cs : Array Value), off + k + l.length ≤ cs.size → (l.zipIdx k).foldl (fun cs x => cs.setIfInBounds (off + x.2) x.1) cs = (cs.toList.take (off + k) ++ (l ++ cs.toList.drop (off + k + l.length))).toArray
  | [], k, off, cs, h => by simp
  | v :: r, k, off, cs, h => by
    simp only [List.length_cons] at h
    rw [List.zipIdx_cons, List.foldl_cons, foldl_put r (k + 1) off _ (by rw [Array.size_setIfInBounds]; omega), show off + (k + 1) = off + k + 1 by omega, put_shift cs (off + k) v r (by omega)]
    rfl
theorem fill_one (place : Nat → Option (Nat × Nat)) (cells : Array Value) (i off size : Nat) (v : Value) (rest : List (Nat × Value)) (hp : place i = some (off, size)) (hv : v.cells.size = size) (ho : off + size ≤ cells.size) :
    Instr.fill place cells ((i, v) :: rest) = Instr.fill place (cells.toList.take off ++ (v.cells.toList ++ cells.toList.drop (off + size))).toArray rest := by
  rw [Instr.fill, hp]
  dsimp only
  rw [if_neg (by rw [hv]; simp; omega)]
  congr 1
  have := foldl_put v.cells.toList 0 off cells (by rw [Array.length_toList, hv]; omega)
  rw [Array.length_toList, hv, Nat.add_zero] at this
  rw [← this, ← Array.foldl_toList, Array.toList_zipIdx]
theorem run_slice1 (t e : TypeId) (C : Array Value) (ie : TypeInfo) (z : Value) (hu : Try.prog.underlying t = some (.slice e)) (hie : Try.prog.info? e = some ie) (hz : ie.zero = some z) (h0 : 0 < ie.size) (h1 : ie.size ≤ 1000) (hC : C.size = ie.size) (w : World) :
    (Instr.buildSlice t 1 #[(0, .agg C)]).run Try.prog w = .ok (.slice (some ⟨w.heap.size, 0, none⟩) 1 1) (w.alloc (.cells C e)) := by
  refine run_buildSlice w t e 1 _ C ie z hu hie hz (by omega) (by omega) ?_
  have := fill_one (fun i => some (i * ie.size, ie.size)) ((Array.range (1 * ie.size)).map (z.cells[· % z.cells.size]!)) 0 0 ie.size (.agg C) [] (by simp) hC (by simp)
  refine this.trans ?_
  rw [Instr.fill, List.drop_of_length_le (by simp)]
  simp [Value.cells]
theorem op_slice1 {P : Program} {Q : Exit → Act → World → Prop} {o : Oper} {a : Act} {w w1 : World} {K : Act → World → Prop} (t : TypeId) (n : Nat) (parts : Array (Nat × Operand)) (ho : o.op = .buildSlice t n parts)
    (vals : Array (Nat × Value)) (v : Value) (hp : (parts.map fun (i, x) => (i, a.eval x)) = vals) (hr : (Instr.buildSlice t n vals).run P w = .ok v w1) (h : K (a.put o.dst v) w1) : Oper.wp P o a w K Q := by
  subst hp
  unfold Oper.wp execOp
  simp only [ho, Sem.run_bind, hr, Result.andThen_ok]
  exact h
end Go.Proofs.Ytbjfklgmbeaaoaa

set_option linter.unusedVariables false
set_option linter.unusedSimpArgs false
namespace Go.Proofs.Ytbjfklgmbeaaoaa
open Go.RowKit

theorem mk8 (m : Nat) (hm : m ≤ 140737488355328) : ∀ W : World, (Instr.makeSlice 27 (.int .i64 (m : Int)) (.int .i64 (m : Int))).run Try.prog W = .ok (.slice (some ⟨W.heap.size, 0, none⟩) m m) (W.alloc (.cells (madeCells #[.int .u8 0] m) 5)) := by
  intro W
  exact run_make_row' 27 5 (.int .u8 0) 1 Try.underlying27 info8 rfl .i64 .i64 m (by omega) (by omega) W
theorem Ow.made (w : World) (base N : Nat) (hN : w.heap.size = N) (h : base ≤ w.heap.size) (m : Nat) (hm : m ≤ 140737488355328) : Ow (w.alloc (.cells (madeCells #[.int .u8 0] m) 5)) base (some ⟨N, 0, none⟩) m m (List.replicate m 0) := by
  subst hN
  have h := World.ownsRow_lit (base := base) (e := 5) (size := 1) w (madeCells #[.int .u8 0] m) m h (by simp [maxLen]; omega) (by simp [size_madeCells])
  have hl : (madeCells #[Value.int .u8 0] m).toList = u8v (List.replicate m 0) := by
    apply List.ext_getElem
    · simp [u8v, madeCells]
    · intro i h1 h2
      simp [u8v, madeCells, Nat.mod_one]
  rw [hl] at h
  exact ⟨h, hm⟩

end Go.Proofs.Ytbjfklgmbeaaoaa

set_option linter.unusedVariables false
set_option linter.unusedSimpArgs false
namespace Go.Proofs.Ytbjfklgmbeaaoaa
open Go.RowKit

/-- The sum of all but four bytes. -/
def othI (xs : List UInt8) (a : Nat) : Int := updI (updI 0 (xs.take a)) (xs.drop (a + 4))
theorem updI_range (s : Int) (xs : List UInt8) : 0 ≤ updI s xs ∧ updI s xs ≤ 4294967295 := bits32_range _ _ _
def byt8 (n : Int) : UInt8 := UInt8.ofNat n.toNat
theorem byt8_toNat (n : Int) (h : 0 ≤ n) : ((byt8 n).toNat : Int) = n % 256 := by
  unfold byt8
  simp
  omega
def sum4 (xs : List UInt8) (a : Nat) (s : Int) : List UInt8 := (((xs.set a (byt8 s)).set (a + 1) (byt8 (s / 256))).set (a + 2) (byt8 (s / 65536))).set (a + 3) (byt8 (s / 16777216))
def sealB (xs : List UInt8) (a : Int) : List UInt8 := if 0 ≤ a ∧ a ≤ (xs.length : Int) - 4 then sum4 xs a.toNat (othI xs a.toNat) else xs

set_option maxHeartbeats 1000000 in
theorem seal_any (A : Option Addr) (n c : Nat) (xs : List UInt8) (a : Int) (w : World) (hb : Bs w A n c xs) :
    Calls Try.prog 89 #[.slice A n c, .int .i64 a] w fun e w' => ∃ A' c', e = .returned (.slice A' n c') ∧ Ow w' w.heap.size A' n c' (sealB xs a) ∧ Below w.heap.size w w' := by
  have hlim := hb.lim
  have hlen := hb.len
  by_cases hP : 0 ≤ a ∧ a ≤ (n : Int) - 4
  · obtain ⟨a, rfl⟩ := Int.eq_ofNat_of_zero_le hP.1
    have hd : decide (0 ≤ (a : Int) ∧ (a : Int) ≤ (n : Int) - 4) = true := decide_eq_true hP
    have ha : a + 4 ≤ n := by omega
    have hS : sealB xs a = sum4 xs a (othI xs a) := by unfold sealB; rw [if_pos (by omega)]; rfl
    have hS' := Aside0.mk hS
    clear hS hP hlen
    go_enter Try.func89, Try.ntmps89
    go_wp2_with (go_at_call 49; refine (clone8_any A n c xs _ hb).mono ?_; rintro e w1 ⟨A1, c1, rfl, hO1, hB1⟩)
    have HO1 := Aside0.mk hO1
    clear hO1
    go_wp2_with (first | (go_at_call 108; refine (has_any A n c _ _ hlim).mono ?_; rintro e w2 ⟨rfl, rfl⟩) | (go_at_call 112; refine (others_any A n c xs a _ (hb.below hB1) ha).mono ?_; rintro e w3 ⟨rfl, hB3⟩))
    have hO3 := HO1.out.below hB3
    obtain ⟨g, rfl, hg1, hg2, hfz⟩ := hO3.head (by omega)
    have hcell : ∀ j, j < n → w3.cell? ⟨g, j, none⟩ = some (.int .u8 (b8 xs j)) := fun j hj => by
      obtain ⟨ad, he, hc⟩ := hO3.bs.atN j hj
      injection he with he
      subst he
      rwa [add_plain] at hc
    have k0 := hcell a (by omega)
    have k1 := hcell (a + 1) (by omega)
    have k2 := hcell (a + 2) (by omega)
    have k3 := hcell (a + 3) (by omega)
    have f0 := hfz a
    have f1 := hfz (a + 1)
    have f2 := hfz (a + 2)
    have f3 := hfz (a + 3)
    have HO3 := Aside0.mk hO3
    clear hO3 hcell hfz
    generalize hsum : updI (updI 0 (List.take a xs)) (List.drop (a + 4) xs) = s
    have hs := updI_range (updI 0 (List.take a xs)) (List.drop (a + 4) xs)
    rw [hsum] at hs
    have hsum' := Aside0.mk hsum
    clear hsum
    obtain ⟨hs0, hs1⟩ := hs
    go_wp2_with (first | (with_reducible refine wp_loop_rounds 5 ?_) | (with_reducible rw [rounds_succ]))
    go_ret
    refine ⟨some ⟨g, 0, none⟩, c1, rfl, ?_, ?_⟩
    · have e0 : s % 256 = ((byt8 s).toNat : Int) := (byt8_toNat _ hs0).symm
      have e1 : s / 256 % 256 = ((byt8 (s / 256)).toNat : Int) := (byt8_toNat _ (by omega)).symm
      have e2 : s / 65536 % 256 = ((byt8 (s / 65536)).toNat : Int) := (byt8_toNat _ (by omega)).symm
      have e3 : s / 16777216 = ((byt8 (s / 16777216)).toNat : Int) := by rw [byt8_toNat _ (by omega)]; omega
      rw [e0, e1, e2, e3, hS'.out, show othI xs a = s from hsum'.out]
      exact (((HO3.out.store a _).store (a + 1) _).store (a + 2) _).store (a + 3) _
    · exact ((((hB1.trans (hB3.mono hB1.size)).setCell hg1 _).setCell hg1 _).setCell hg1 _).setCell hg1 _
  · have hd : decide (0 ≤ a ∧ a ≤ (n : Int) - 4) = false := decide_eq_false hP
    have hS : sealB xs a = xs := by unfold sealB; rw [hlen, if_neg hP]
    have hS' := Aside0.mk hS
    clear hS hlen
    go_enter Try.func89, Try.ntmps89
    go_wp2_with (go_at_call 49; refine (clone8_any A n c xs _ hb).mono ?_; rintro e w1 ⟨A1, c1, rfl, hO1, hB1⟩)
    have HO1 := Aside0.mk hO1
    clear hO1
    go_wp2_with (go_at_call 108; refine (has_any A n c _ _ hlim).mono ?_; rintro e w2 ⟨rfl, rfl⟩)
    go_ret
    exact ⟨A1, c1, rfl, by rw [hS'.out]; exact HO1.out, hB1⟩
theorem sealB_length (xs : List UInt8) (a : Int) : (sealB xs a).length = xs.length := by
  unfold sealB sum4
  split <;> simp

set_option maxHeartbeats 1000000 in
theorem sealed_any (A : Option Addr) (n c : Nat) (xs : List UInt8) (a : Int) (w : World) (hb : Bs w A n c xs) :
    Calls Try.prog 78 #[.slice A n c, .int .i64 a] w fun e w' => e = .returned (.bool (decide (0 ≤ a ∧ a ≤ (n : Int) - 4) && sealB xs a == xs)) ∧ Below w.heap.size w w' := by
  have hlim := hb.lim
  by_cases hP : 0 ≤ a ∧ a ≤ (n : Int) - 4
  · have hd : decide (0 ≤ a ∧ a ≤ (n : Int) - 4) = true := decide_eq_true hP
    clear hP
    go_enter Try.func78, Try.ntmps78
    go_wp2_with (first | (go_at_call 108; refine (has_any A n c _ _ hlim).mono ?_; rintro e w2 ⟨rfl, rfl⟩) | (go_at_call 89; refine (seal_any A n c xs _ _ hb).mono ?_; rintro e w3 ⟨A3, c3, rfl, hO3, hB3⟩) | (go_at_call 109; refine (sequal8_any _ _ _ _ _ _ _ _ _ hO3.bs (hb.below hB3)).mono ?_; rintro e w4 ⟨rfl, m, rfl⟩))
    go_ret
    exact ⟨ret_bool (by rw [hd, Bool.true_and]), below_drawn hB3 m⟩
  · have hd : decide (0 ≤ a ∧ a ≤ (n : Int) - 4) = false := decide_eq_false hP
    clear hP
    go_enter Try.func78, Try.ntmps78
    go_wp2_with (go_at_call 108; refine (has_any A n c _ _ hlim).mono ?_; rintro e w2 ⟨rfl, rfl⟩)
    go_ret
    exact ⟨ret_bool (by rw [hd, Bool.false_and]), Below.refl _ _⟩

end Go.Proofs.Ytbjfklgmbeaaoaa

set_option linter.unusedVariables false
set_option linter.unusedSimpArgs false
namespace Go.Proofs.Ytbjfklgmbeaaoaa
open Go.RowKit

def bit8 (n : Int) : List Bool := [n % 2 == 1, n / 2 % 2 == 1, n / 4 % 2 == 1, n / 8 % 2 == 1, n / 16 % 2 == 1, n / 32 % 2 == 1, n / 64 % 2 == 1, n / 128 % 2 == 1]
def bitsL (xs : List UInt8) : List Bool := (xs.map fun x => bit8 (x.toNat : Int)).flatten
theorem bitsL_snoc (xs : List UInt8) (j : Nat) (h : j < xs.length) : bitsL (xs.take (j + 1)) = bitsL (xs.take j) ++ bit8 (b8 xs j) := by
  have e : b8 xs j = (xs[j].toNat : Int) := by simp [b8, List.getD_eq_getElem?_getD, List.getElem?_eq_getElem h]
  rw [List.take_succ_eq_append_getElem h, e, bitsL, List.map_append, List.flatten_append]
  simp [bitsL]
theorem bitsL_length (xs : List UInt8) : (bitsL xs).length = 8 * xs.length := by
  induction xs with
  | nil => rfl
  | cons x xs ih => simp only [bitsL, List.map_cons, List.flatten_cons, List.length_append, List.length_cons] at ih ⊢; rw [ih]; simp [bit8]; omega

set_option maxHeartbeats 4000000 in
set_option maxRecDepth 100000 in
theorem rbits_any (A : Option Addr) (n c : Nat) (xs : List UInt8) (w : World) (hb : Bs w A n c xs) (hn : n ≤ 100000) :
    Calls Try.prog 128 #[.slice A n c] w fun e w' => ∃ A' c', e = .returned (.slice A' (8 * n) c') ∧ Obl w' w.heap.size A' (8 * n) c' (bitsL xs) ∧ Below w.heap.size w w' := by
  go_enter Try.func128, Try.ntmps128
  go_wp2
  go_loopg [3, 4] n (fun k v i wr => ∃ (j : Nat) (A1 : Option Addr) (c1 : Nat), Aside (k + j = n) ∧ i = .int .i64 (j : Int) ∧ v = .slice A1 (8 * j) c1 ∧ Aside0 (Obl wr w.heap.size A1 (8 * j) c1 (bitsL (xs.take j))) ∧ Aside0 (Below w.heap.size w wr))
  case atStart => exact ⟨0, none, 0, rfl, rfl, rfl, ⟨Obl.nil _ _⟩, ⟨Below.refl _ _⟩⟩
  case round =>
    obtain ⟨j, A1, c1, hk, rfl, rfl, hO, hB⟩ := hrel
    by_cases hlt : j < n
    · obtain ⟨ad, rfl, hx⟩ := (hb.below hB.out).atN j hlt
      have hx0 := b8_lo xs j
      have hx1 := b8_hi xs j
      have hO' := Aside0.mk hO.out.row
      go_wp2_with (first | (with_reducible refine wp_loop_rounds 9 ?_) | (with_reducible rw [rounds_succ]) | (at_builtin; refine wpl_appb (w0 := w) w.heap.size rfl _ _ rfl _ _ _ _ _ rfl rfl hO.out hB.out (by have := hB.out.size; omega) (by omega) ?_; (try clear hx); clear hO hB; intro A2 c2 w2 hO hB; replace hO := Aside0.mk hO; replace hB := Aside0.mk hB))
      go_roundg (n - (j + 1))
      case measure => have := hk.out; omega
      case rel =>
        refine ⟨j + 1, A2, c2, by have := hk.out; exact (show n - (j + 1) + (j + 1) = n by omega), by go_num, rfl, ⟨?_⟩, hB⟩
        have e := hO.out
        have hl : bitsL (xs.take (j + 1)) = bitsL (xs.take j) ++ [b8 xs j % 2 == 1] ++ [b8 xs j / 2 % 2 == 1] ++ [b8 xs j / 2 / 2 % 2 == 1] ++ [b8 xs j / 2 / 2 / 2 % 2 == 1] ++ [b8 xs j / 2 / 2 / 2 / 2 % 2 == 1] ++ [b8 xs j / 2 / 2 / 2 / 2 / 2 % 2 == 1] ++ [b8 xs j / 2 / 2 / 2 / 2 / 2 / 2 % 2 == 1] ++ [b8 xs j / 2 / 2 / 2 / 2 / 2 / 2 / 2 % 2 == 1] := by
          rw [bitsL_snoc xs j (by rw [hb.len]; exact hlt)]
          simp only [bit8, List.append_assoc, List.cons_append, List.nil_append]
          have e1 : b8 xs j / 2 / 2 = b8 xs j / 4 := by omega
          have e2 : b8 xs j / 4 / 2 = b8 xs j / 8 := by omega
          have e3 : b8 xs j / 8 / 2 = b8 xs j / 16 := by omega
          have e4 : b8 xs j / 16 / 2 = b8 xs j / 32 := by omega
          have e5 : b8 xs j / 32 / 2 = b8 xs j / 64 := by omega
          have e6 : b8 xs j / 64 / 2 = b8 xs j / 128 := by omega
          rw [e1, e2, e3, e4, e5, e6]
        rw [hl]
        exact e
    · go_wp2
      go_ret
      obtain rfl : j = n := by have := hk.out; have := hO.out.len; rw [bitsL_length] at this; simp at this; have := hb.len; omega
      refine ⟨A1, c1, rfl, ?_, hB.out⟩
      have e : xs.take j = xs := by rw [← hb.len, List.take_length]
      have := hO.out
      rwa [e] at this
end Go.Proofs.Ytbjfklgmbeaaoaa

set_option linter.unusedVariables false
set_option linter.unusedSimpArgs false
namespace Go.Proofs.Ytbjfklgmbeaaoaa
open Go.RowKit

/-- append of bools to bools. -/
theorem wpl_appbs {ops : Array Oper} {rest : List Oper} {o : Oper} {a : Act} {Q : Exit → Act → World → Prop} {w0 W : World} (base : Nat) (hgd : o.guard = none) (s x : Operand)
    (ho : o.op = .call { callee := .builtin .append, args := #[s, x], argTypes := #[171, 171] })
    (A1 : Option Addr) (n c1 : Nat) (l : List Bool) (b : Nat) (A : Option Addr) (m c : Nat) (l' : List Bool) (hs : a.eval s = .slice A1 n c1) (hx : a.eval x = .slice A m c)
    (HO : Obl W base A1 n c1 l) (HR : Obl W b A m c l') (HB : Below base w0 W) (hbase : base ≤ W.heap.size) (hl : n + m ≤ 140737488355328)
    (h : ∀ A2 c2 w1, Obl w1 base A2 (n + m) c2 (l ++ l') → Below base w0 w1 → wpList Try.prog ops Q rest (a.put o.dst (.slice A2 (n + m) c2)) w1) :
    wpList Try.prog ops Q (o :: rest) a W := by
  have hln := HR.len
  refine wpl_append (w0 := w0) base hgd s x 171 4 (.bool false) 1 1 ho Try.underlying171 infoB rfl (by omega) (by omega) _ n (blv l) A m c (blv l') hs hx HO.row (by rw [blv_length]; omega) ?_ (by intro u hu; simp only [blv, List.mem_map] at hu; obtain ⟨q, _, rfl⟩ := hu; rfl) HB hbase (by omega) ?_
  · intro hm
    obtain ⟨g, e, _⟩ := HR.at_ 0 hm
    refine ⟨_, e, fun j u hu => ?_⟩
    have hj : j < l'.length := by
      rcases Nat.lt_or_ge j l'.length with h | h
      · exact h
      · simp [blv, List.getElem?_eq_none h] at hu
    obtain ⟨g', e', _, _, hc, _⟩ := HR.at_ j (by omega)
    rw [e] at e'
    injection e' with e'
    injection e' with e'
    subst e'
    rw [add_plain, hc]
    simp [blv, List.getElem?_eq_getElem hj] at hu
    simp [← hu, List.getD_eq_getElem?_getD, List.getElem?_eq_getElem hj]
  · intro v1 w1 hown hB _ _
    obtain ⟨A2, c2, rfl⟩ := own_form hown
    exact h A2 c2 w1 ⟨by rw [blv_append]; exact hown, hl⟩ hB

def pwl : List Nat := [28, 27, 26, 25, 23, 22, 20, 19, 18, 14, 13, 11, 10, 9, 8, 6, 0]
def pw (k : Nat) : Int := ((pwl.getD k 0 : Nat) : Int)
theorem pw_range (k : Nat) : 0 ≤ pw k ∧ pw k ≤ 28 := by
  unfold pw
  have : ∀ k, pwl.getD k 0 ≤ 28 := by
    intro k
    rcases k with _|_|_|_|_|_|_|_|_|_|_|_|_|_|_|_|_|k <;> simp [pwl]
  have := this k
  omega
def flipAt (l : List Bool) (i : Nat) : List Bool := l.set i (!l.getD i false)
def flips (i : Nat) (l : List Bool) (k : Nat) : List Bool := (pwl.take k).foldl (fun l p => flipAt l (i + 32 - p)) l
theorem flips_succ (i : Nat) (l : List Bool) (k : Nat) (hk : k < 17) : flips i l (k + 1) = flipAt (flips i l k) ((i : Int) + 32 - pw k).toNat := by
  unfold flips
  rw [List.take_succ_eq_append_getElem (show k < pwl.length from hk), List.foldl_append]
  have e : ((i : Int) + 32 - pw k).toNat = i + 32 - pwl[k]'hk := by
    have : pw k = ((pwl[k]'hk : Nat) : Int) := by simp [pw, List.getD_eq_getElem?_getD, List.getElem?_eq_getElem (show k < pwl.length from hk)]; rfl
    rw [this]; omega
  rw [e]
  rfl
def stepR (l : List Bool) (i : Nat) : List Bool := if l.getD i false = true then flips i (l.set i false) 17 else l
def divR (l : List Bool) : Nat → List Bool
  | 0 => l
  | i + 1 => stepR (divR l i) i
/-- What rest tells. -/
def restL (l : List Bool) : List Bool := if 32 < l.length then (divR l (l.length - 32)).drop (l.length - 32) else l
theorem flipAt_length (l : List Bool) (i : Nat) : (flipAt l i).length = l.length := by simp [flipAt]
theorem flips_length (i : Nat) (l : List Bool) (k : Nat) : (flips i l k).length = l.length := by
  unfold flips
  generalize pwl.take k = ps
  induction ps generalizing l with
  | nil => rfl
  | cons p ps ih => rw [List.foldl_cons, ih, flipAt_length]
theorem stepR_length (l : List Bool) (i : Nat) : (stepR l i).length = l.length := by
  unfold stepR
  split
  · rw [flips_length, List.length_set]
  · rfl
theorem divR_length (l : List Bool) (i : Nat) : (divR l i).length = l.length := by
  induction i with
  | zero => rfl
  | succ i ih => rw [divR, stepR_length, ih]
theorem pw_cells (w : World) (T : TypeId) (k : Nat) (h : k < 17) : (w.alloc (.cells #[.int .i64 28, .int .i64 27, .int .i64 26, .int .i64 25, .int .i64 23, .int .i64 22, .int .i64 20, .int .i64 19, .int .i64 18, .int .i64 14, .int .i64 13, .int .i64 11, .int .i64 10, .int .i64 9, .int .i64 8, .int .i64 6, .int .i64 0] T)).cell? ⟨w.heap.size, k, none⟩ = some (.int .i64 (pw k)) := by
  rw [cell_of_row _ _ _ _ _ _ (heap_alloc_new w _)]
  rcases k with _|_|_|_|_|_|_|_|_|_|_|_|_|_|_|_|_|k <;> first | rfl | omega
theorem Obl.lit (w : World) (base N : Nat) (hN : w.heap.size = N) (h : base ≤ w.heap.size) : Obl (w.alloc (.cells #[] 4)) base (some ⟨N, 0, none⟩) 0 0 [] := by
  subst hN
  exact ⟨by simpa [blv] using World.ownsRow_lit (base := base) (e := 4) (size := 1) w #[] 0 h (by simp [maxLen]) (by simp), by omega⟩

theorem elemB : Try.prog.elem 171 = 4 := by simp [Program.elem, Try.underlying171]
theorem undB : Try.prog.underlying 171 = some (.slice (Try.prog.elem 171)) := by rw [elemB]; exact Try.underlying171
theorem sizeB (w : World) : (sizeOf (Try.prog.elem 171)).run Try.prog w = .ok 1 w := by
  rw [elemB]
  obtain ⟨i, hi, hz⟩ := Option.map_eq_some_iff.1 infoB
  simp only [Prod.mk.injEq] at hz
  simp [sizeOf, typeInfo, hi, hz.2.1]
theorem slB_l (w : World) (A : Option Addr) (n c : Nat) (kl : IntKind) (l : Int) (h0 : 0 ≤ l) (h1 : l ≤ (n : Int)) :
    (Instr.slice 171 (.slice A n c) (some (.int kl l)) none none).run Try.prog w = .ok (.slice (cutA A c l.toNat) (n - l.toNat) (c - l.toNat)) w := by
  rw [run_slice_l w _ A n c undB kl l h0 h1, sizeB]
  simp [sliced, cutA, Result.andThen]
/-- What rest hands back: bools that can be read. -/
def RetL (w : World) (l : List Bool) (e : Ending) (w' : World) : Prop := ∃ A' c', e = .returned (.slice A' l.length c') ∧ (∀ j, j < l.length → ∃ ad, A' = some ad ∧ w'.cell? (ad.add j) = some (.bool (l.getD j false))) ∧ Below w.heap.size w w'
abbrev pwBox : Obj := .cells #[.int .i64 28, .int .i64 27, .int .i64 26, .int .i64 25, .int .i64 23, .int .i64 22, .int .i64 20, .int .i64 19, .int .i64 18, .int .i64 14, .int .i64 13, .int .i64 11, .int .i64 10, .int .i64 9, .int .i64 8, .int .i64 6, .int .i64 0] 3
set_option maxHeartbeats 4000000 in
set_option maxRecDepth 100000 in
theorem rrest_any (b : Nat) (A : Option Addr) (n c : Nat) (l : List Bool) (w : World) (hb : Obl w b A n c l) (hn : n ≤ 1000000) :
    Calls Try.prog 129 #[.slice A n c] w (RetL w (restL l)) := by
  have hlen := Aside0.mk hb.len
  have HO := Aside0.mk (Obl.lit (w.alloc pwBox) (w.heap.size + 1) (w.heap.size + 1) (by simp) (by simp))
  have HR := Aside0.mk hb
  have hP := Aside0.mk (pw_cells w 3)
  clear hb
  go_enter Try.func129, Try.ntmps129
  go_wp2_with (at_builtin; (refine wpl_appbs (w0 := w.alloc pwBox) (w.heap.size + 1) rfl _ _ rfl _ 0 0 [] b A n c l rfl rfl HO.out ((HR.out.alloc _).alloc _) ((Below.refl _ _).alloc (by simp) _) (by simp) (by omega) ?_); intro A2 c2 w2 hO hB)
  have hO' := Aside0.mk hO
  have hB' := Aside0.mk hB
  clear hO hB HO HR
  simp only [Nat.zero_add, List.nil_append] at hO'
  go_loopg [5] n (fun k i wr => ∃ j : Nat, Aside (k + j = n ∧ (j = 0 ∨ j + 32 ≤ n)) ∧ i = .int .i64 (j : Int) ∧ Aside0 (Obl wr (w.heap.size + 1) A2 n c2 (divR l j)) ∧ Aside0 (Below (w.heap.size + 1) (w.alloc pwBox) wr))
  case atStart => exact ⟨0, ⟨rfl, .inl rfl⟩, rfl, by simpa [divR] using hO', hB'⟩
  case round =>
    obtain ⟨j, hk, rfl, hO, hB⟩ := hrel
    have hjb : j ≤ 1000000 := by have := hk.out.1; omega
    by_cases hlt : j + 32 < n
    · have hdec : decide ((j : Int) + 32 < (n : Int)) = true := decide_eq_true (by omega)
      obtain ⟨g, rfl, hg1, hg2, hx, hf⟩ := hO.out.at_ j (by omega)
      cases hbit : (divR l j).getD j false with
      | false =>
        rw [hbit] at hx
        have hbit' := Aside0.mk hbit
        clear hbit
        go_wp2
        go_roundg (n - (j + 1))
        case measure => have := hk.out.1; omega
        case rel =>
          refine ⟨j + 1, ⟨by have := hk.out.1; omega, by omega⟩, by go_num, ⟨?_⟩, hB⟩
          rw [divR, stepR, hbit'.out, if_neg (by simp)]
          exact hO.out
      | true =>
        rw [hbit] at hx
        have hbit' := Aside0.mk hbit
        clear hbit
        go_wp2
        have hO1 := Aside0.mk (hO.out.store j false)
        have hB1 := Aside0.mk (hB.out.setCell (p := ⟨g, j, none⟩) hg1 (.bool false))
        have hgs := Aside0.mk hg1
        clear hO hB hx hf hg1 hg2
        generalize hwo : wr.setCell ⟨g, j, none⟩ (.bool false) = wo at hO1 hB1 ⊢
        clear hwo
        go_loopg [6] 17 (fun k i wq => ∃ q : Nat, Aside (k + q = 17) ∧ i = .int .i64 (q : Int) ∧ Aside0 (Obl wq (w.heap.size + 1) (some ⟨g, 0, none⟩) n c2 (flips j ((divR l j).set j false) q)) ∧ Aside0 (Below (w.heap.size + 1) (w.alloc pwBox) wq))
        case atStart => exact ⟨0, rfl, rfl, by simpa [flips] using hO1, hB1⟩
        case round =>
          obtain ⟨q, hq, rfl, hO, hB⟩ := hrel
          by_cases hlq : q < 17
          · have hpw := pw_range q
            have hp0 := hpw.1
            have hp1 := hpw.2
            obtain ⟨g', he, _, _, hx, hf⟩ := hO.out.at_ ((j : Int) + 32 - pw q).toNat (by omega)
            injection he with he
            injection he with he
            subst he
            have hpc : wr.cell? ⟨w.heap.size, q, none⟩ = some (.int .i64 (pw q)) := (hB.out.cell (p := ⟨w.heap.size, q, none⟩) (by simp)).trans (hP.out q hlq)
            have hr0 : 0 ≤ (j : Int) + 32 - pw q := by omega
            have hr1 : (j : Int) + 32 - pw q < (n : Int) := by omega
            go_wp2
            go_roundg (17 - (q + 1))
            case measure => have := hq.out; omega
            case rel =>
              refine ⟨q + 1, by have := hq.out; exact (show 17 - (q + 1) + (q + 1) = 17 by omega), by go_num, ⟨?_⟩, ⟨hB.out.setCell (p := ⟨g, _, none⟩) hgs.out _⟩⟩
              rw [flips_succ _ _ _ hlq]
              exact hO.out.store _ _
          · obtain rfl : q = 17 := by have := hq.out; omega
            go_wp2
            go_roundg (n - (j + 1))
            case measure => have := hk.out.1; omega
            case rel =>
              refine ⟨j + 1, ⟨by have := hk.out.1; omega, by omega⟩, by go_num, ⟨?_⟩, hB⟩
              rw [divR, stepR, hbit'.out, if_pos rfl]
              exact hO.out
    · have hdec : decide ((j : Int) + 32 < (n : Int)) = false := decide_eq_false (by omega)
      have hB1 : Below w.heap.size w wr := ((Below.refl _ _).alloc (Nat.le_refl _) _).trans (hB.out.mono (by omega))
      by_cases h32 : 32 < n
      · obtain ⟨hcap0, hcap1⟩ := hO.out.cap
        have s1 := fun W => slB_l W A2 n c2 .i64 ((n : Int) - 32) (by omega) (by omega)
        have e1 : ((n : Int) - 32).toNat = n - 32 := by omega
        have e2 : n - (n - 32) = 32 := by omega
        rw [e1, e2] at s1
        clear e1 e2
        have h32' : (32 : Int) < (n : Int) := by omega
        go_wp2
        go_ret
        obtain rfl : j = n - 32 := by have := hk.out; omega
        have hll := hlen.out
        have hrl : restL l = (divR l (n - 32)).drop (n - 32) := by unfold restL; rw [hll, if_pos h32]
        have hl2 : (restL l).length = 32 := by rw [hrl, List.length_drop, divR_length, hll]; omega
        unfold RetL
        rw [hl2]
        refine ⟨_, _, rfl, fun q hq => ?_, hB1⟩
        obtain ⟨g, rfl, _, _, hx, _⟩ := hO.out.at_ (n - 32 + q) (by omega)
        unfold cutA
        rw [if_neg (by omega)]
        refine ⟨_, rfl, ?_⟩
        rw [add_add, add_plain, hx, hrl]
        simp [List.getD_eq_getElem?_getD, List.getElem?_drop]
      · have h32' : ¬ (32 : Int) < (n : Int) := by omega
        go_wp2
        go_ret
        have hll := hlen.out
        have hrl : restL l = l := by unfold restL; rw [hll, if_neg h32]
        obtain rfl : j = 0 := by have := hk.out; omega
        unfold RetL
        rw [hrl, hll]
        refine ⟨_, _, rfl, fun q hq => ?_, hB1⟩
        obtain ⟨g, rfl, _, _, hx, _⟩ := hO.out.at_ q hq
        refine ⟨_, rfl, ?_⟩
        rw [add_plain, hx]
        rfl

end Go.Proofs.Ytbjfklgmbeaaoaa

set_option linter.unusedVariables false
set_option linter.unusedSimpArgs false
namespace Go.Proofs.Ytbjfklgmbeaaoaa
open Go.RowKit

def flipF (l : List Bool) : Nat → List Bool
  | 0 => l
  | k + 1 => flipAt (flipF l k) k
theorem flipF_length (l : List Bool) (k : Nat) : (flipF l k).length = l.length := by
  induction k with
  | zero => rfl
  | succ k ih => rw [flipF, flipAt_length, ih]
def numP (l : List Bool) : Nat → Int
  | 0 => 0
  | m + 1 => if l.getD (31 - m) false = true then numP l m * 2 % 4294967296 else (numP l m * 2 % 4294967296 + 1) % 4294967296
theorem numP_range (l : List Bool) (m : Nat) : 0 ≤ numP l m ∧ numP l m ≤ 4294967295 := by
  cases m with
  | zero => simp [numP]
  | succ m => simp only [numP]; split <;> omega
/-- What the reference's sum is. -/
def refOf (xs : List UInt8) : Int := numP (restL (flipF (bitsL xs ++ List.replicate 32 false) 32)) 32
theorem restL_length (l : List Bool) (h : 32 ≤ l.length) : (restL l).length = 32 := by
  unfold restL
  split
  · rw [List.length_drop, divR_length]; omega
  · omega

theorem rrest32_any (b : Nat) (A : Option Addr) (n c : Nat) (l : List Bool) (w : World) (hb : Obl w b A n c l) (hn : n ≤ 1000000) (h32 : 32 ≤ n) :
    Calls Try.prog 129 #[.slice A n c] w fun e w' => ∃ ad c', e = .returned (.slice (some ad) 32 c') ∧ (∀ j, j < 32 → w'.cell? (ad.add j) = some (.bool ((restL l).getD j false))) ∧ Below w.heap.size w w' := by
  refine (rrest_any b A n c l w hb hn).mono ?_
  rintro e w1 ⟨A1, c1, rfl, hr, hB⟩
  have hl := restL_length l (by rw [hb.len]; exact h32)
  rw [hl] at hr ⊢
  obtain ⟨ad, rfl, _⟩ := hr 0 (by omega)
  refine ⟨ad, c1, rfl, fun j hj => ?_, hB⟩
  obtain ⟨ad', he, hc⟩ := hr j hj
  injection he with he
  subst he
  exact hc

set_option maxHeartbeats 4000000 in
set_option maxRecDepth 100000 in
theorem rof_any (A : Option Addr) (n c : Nat) (xs : List UInt8) (w : World) (hb : Bs w A n c xs) (hn : n ≤ 100000) :
    Calls Try.prog 113 #[.slice A n c] w fun e w' => e = .returned (.int .u32 (refOf xs)) ∧ Below w.heap.size w w' := by
  have hlen := Aside0.mk hb.len
  go_enter Try.func113, Try.ntmps113
  go_wp2_with (go_at_call 128; refine (rbits_any A n c xs _ hb hn).mono ?_; rintro e w1 ⟨A1, c1, rfl, hO1, hB1⟩)
  have hO1' := Aside0.mk hO1
  have hB1' := Aside0.mk hB1
  clear hO1 hB1 hb
  go_loopg [3, 4] 32 (fun k v i wr => ∃ (j : Nat) (A2 : Option Addr) (c2 : Nat), Aside (k + j = 32) ∧ i = .int .i64 (j : Int) ∧ v = .slice A2 (8 * n + j) c2 ∧ Aside0 (Obl wr w.heap.size A2 (8 * n + j) c2 (bitsL xs ++ List.replicate j false)) ∧ Aside0 (Below w.heap.size w wr))
  case atStart => exact ⟨0, A1, c1, rfl, rfl, rfl, by simpa using hO1', hB1'⟩
  case round =>
    obtain ⟨j, A2, c2, hk, rfl, rfl, hO, hB⟩ := hrel
    have hjb : j ≤ 32 := by have := hk.out; omega
    by_cases hlt : j < 32
    · go_wp2_with (at_builtin; (refine wpl_appb (w0 := w) w.heap.size rfl _ _ rfl _ _ _ _ _ rfl rfl hO.out hB.out (by have := hB.out.size; omega) (by omega) ?_); intro A3 c3 w3 hO3 hB3)
      go_roundg (32 - (j + 1))
      case measure => have := hk.out; omega
      case rel =>
        refine ⟨j + 1, A3, c3, by exact (show 32 - (j + 1) + (j + 1) = 32 by omega), by go_num, rfl, ⟨?_⟩, ⟨hB3⟩⟩
        rw [List.append_assoc, ← List.replicate_succ'] at hO3
        exact hO3
    · obtain rfl : j = 32 := by omega
      go_wp2_with fail
      have hlb := Aside0.mk (hO.out.len)
      go_loopg [5] 32 (fun k i wq => ∃ q : Nat, Aside (k + q = 32) ∧ i = .int .i64 (q : Int) ∧ Aside0 (Obl wq w.heap.size A2 (8 * n + 32) c2 (flipF (bitsL xs ++ List.replicate 32 false) q)) ∧ Aside0 (Below w.heap.size w wq))
      case atStart => exact ⟨0, rfl, rfl, hO, hB⟩
      case round =>
        obtain ⟨q, hq, rfl, hO, hB⟩ := hrel
        have hqb : q ≤ 32 := by have := hq.out; omega
        by_cases hlq : q < 32
        · obtain ⟨g, rfl, hg1, hg2, hx, hf⟩ := hO.out.at_ q (by omega)
          have hqi : (q : Int) < ((8 * n + 32 : Nat) : Int) := by omega
          go_wp2_with fail
          go_roundg (32 - (q + 1))
          case measure => have := hq.out; omega
          case rel =>
            refine ⟨q + 1, by exact (show 32 - (q + 1) + (q + 1) = 32 by omega), by go_num, ⟨?_⟩, ⟨hB.out.setCell (p := ⟨g, q, none⟩) hg1 _⟩⟩
            rw [flipF]
            exact hO.out.store _ _
        · obtain rfl : q = 32 := by omega
          have hdf : Aside0 (refOf xs = numP (restL (flipF (bitsL xs ++ List.replicate 32 false) 32)) 32) := ⟨rfl⟩
          generalize flipF (bitsL xs ++ List.replicate 32 false) 32 = L at hO hdf
          go_wp2_with (go_at_call 129; refine (rrest32_any w.heap.size A2 _ c2 _ _ hO.out (by omega) (by omega)).mono ?_; rintro e w4 ⟨ad4, c4, rfl, hr4, hB4⟩)
          have hB5 := Aside0.mk (below_then hB.out hB.out.size hB4)
          have hr5 := Aside0.mk hr4
          clear hr4 hB4 hB hO
          go_loop [6, 7] (fun v i => ∃ m : Nat, m ≤ 32 ∧ i = .int .i64 (31 - (m : Int)) ∧ v = .int .u32 (numP (restL L) m)) (fun _ i => (intOf i + 1).toNat)
          case atStart => exact ⟨0, by omega, rfl, rfl⟩
          case round =>
            obtain ⟨m, hm, rfl, rfl⟩ := hrel
            obtain ⟨n0, n1⟩ := numP_range (restL L) m
            by_cases hlm : m < 32
            · have hx := hr5.out (31 - m) (by omega)
              have hi0 : 0 ≤ 31 - (m : Int) := by omega
              have hi1 : 31 - (m : Int) < 32 := by omega
              have hit : (31 - (m : Int)).toNat = 31 - m := by omega
              cases hbit : (restL L).getD (31 - m) false with
              | false =>
                rw [hbit] at hx
                have hnp : Aside0 (numP (restL L) (m + 1) = (numP (restL L) m * 2 % 4294967296 + 1) % 4294967296) := ⟨by rw [numP, hbit, if_neg (by simp)]⟩
                clear hbit
                go_wp2
                go_round
                case rel => exact ⟨m + 1, by omega, congrArg (Value.int .i64) (by omega), congrArg (Value.int .u32) (by rw [hnp.out]; try omega)⟩
                case measure => simp [intOf]; omega
              | true =>
                rw [hbit] at hx
                have hnp : Aside0 (numP (restL L) (m + 1) = numP (restL L) m * 2 % 4294967296) := ⟨by rw [numP, hbit, if_pos rfl]⟩
                clear hbit
                go_wp2
                go_round
                case rel => exact ⟨m + 1, by omega, congrArg (Value.int .i64) (by omega), congrArg (Value.int .u32) (by rw [hnp.out]; try omega)⟩
                case measure => simp [intOf]; omega
            · obtain rfl : m = 32 := by omega
              go_wp2
              go_ret
              exact ⟨ret_int hdf.out.symm, hB5.out⟩
/-- The reference's seal. -/
def rsum4 (xs : List UInt8) (a : Nat) (s : Int) : List UInt8 := (((xs.set a (byt8 s)).set (a + 1) (byt8 (s / 256))).set (a + 2) (byt8 (s / 65536))).set (a + 3) (byt8 (s / 16777216))
def rsealB (xs : List UInt8) (a : Int) : List UInt8 := if 0 ≤ a ∧ a ≤ (xs.length : Int) - 4 then rsum4 xs a.toNat (refOf (xs.take a.toNat ++ xs.drop (a.toNat + 4))) else xs
theorem refOf_range (xs : List UInt8) : 0 ≤ refOf xs ∧ refOf xs ≤ 4294967295 := numP_range _ _
set_option maxHeartbeats 4000000 in
set_option maxRecDepth 100000 in
theorem rseal_any (A : Option Addr) (n c : Nat) (xs : List UInt8) (a : Int) (w : World) (hb : Bs w A n c xs) (hn : n ≤ 100000) :
    Calls Try.prog 90 #[.slice A n c, .int .i64 a] w fun e w' => ∃ A' c', e = .returned (.slice A' n c') ∧ Ow w' w.heap.size A' n c' (rsealB xs a) ∧ Below w.heap.size w w' := by
  have hlim := hb.lim
  have hlen := hb.len
  have hcap := hb.le
  have HL := Aside0.mk (Ow.lit0 w w.heap.size w.heap.size rfl (Nat.le_refl _))
  by_cases hP : 0 ≤ a ∧ a ≤ (n : Int) - 4
  · obtain ⟨a, rfl⟩ := Int.eq_ofNat_of_zero_le hP.1
    have ha : a + 4 ≤ n := by omega
    have hneg : decide ((a : Int) < 0) = false := decide_eq_false (by omega)
    have hgt : decide ((n : Int) - 4 < (a : Int)) = false := decide_eq_false (by omega)
    have hS : rsealB xs a = rsum4 xs a (refOf (xs.take a ++ xs.drop (a + 4))) := by unfold rsealB; rw [if_pos (by omega)]; rfl
    have hS' := Aside0.mk hS
    have hb' := Aside0.mk hb
    have s1 := fun W => sl8_h W A n c .i64 (a : Int) (by omega) (by omega)
    have s2 := fun W => sl8_l W A n c .i64 ((a : Int) + 4) (by omega) (by omega)
    have e2 : ((a : Int) + 4).toNat = a + 4 := by omega
    simp only [Int.toNat_natCast, e2] at s1 s2
    clear hS hP hlen e2
    go_enter Try.func90, Try.ntmps90
    go_wp2_with (first | (at_builtin; refine wpl_a8 (w0 := w) w.heap.size rfl (.tmp 9) (.tmp 10) rfl _ 0 0 [] A n c xs n xs rfl rfl HL.out (hb'.out.alloc _) ((Below.refl _ _).alloc (Nat.le_refl _) _) (by simp) (by omega) (by omega) rfl ?_; clear HL hb; intro A2 c2 w1 hO1 hB1; (have HL2 := Aside0.mk (Ow.lit0 w1 w1.heap.size w1.heap.size rfl (Nat.le_refl _))); (have hb1 := Aside0.mk (hb'.out.below hB1.out))) | (at_builtin; refine wpl_a8 (w0 := w1) w1.heap.size rfl (.tmp 22) (.tmp 25) rfl _ 0 0 [] A a c (xs.take a) a _ rfl rfl HL2.out ((hb1.out.take a (by omega)).alloc _) ((Below.refl _ _).alloc (Nat.le_refl _) _) (by simp) (by omega) (by omega) rfl ?_; clear HL2; intro A3 c3 w2 hO2 hB2) | (at_builtin; refine wpl_a8 (w0 := w1) w1.heap.size rfl (.tmp 27) (.tmp 31) rfl A3 _ c3 _ _ _ _ _ (n - 4) _ rfl rfl hO2.out ((hb1.out.drop (a + 4) (by omega)).below hB2.out) hB2.out hB2.out.size (by omega) (by omega) rfl ?_; clear hO2 hB2; intro A4 c4 w3 hO3 hB3) | (go_at_call 113; refine (rof_any _ _ _ _ _ hO3.out.bs (by omega)).mono ?_; rintro e w4 ⟨rfl, hB4⟩; replace hB4 := Aside0.mk hB4))
    have hB14 := below_then hB1.out hB1.out.size (below_then hB3.out hB3.out.size hB4.out)
    have hO4 := (hO1.out.below hB3.out).below hB4.out
    obtain ⟨g, rfl, hg1, hg2, hfz⟩ := hO4.head (by omega)
    have hcell : ∀ j, j < n → w4.cell? ⟨g, j, none⟩ = some (.int .u8 (b8 xs j)) := fun j hj => by
      obtain ⟨ad, he, hc⟩ := hO4.bs.atN j hj
      injection he with he
      subst he
      rwa [add_plain] at hc
    have k0 := hcell a (by omega)
    have k1 := hcell (a + 1) (by omega)
    have k2 := hcell (a + 2) (by omega)
    have k3 := hcell (a + 3) (by omega)
    have f0 := hfz a
    have f1 := hfz (a + 1)
    have f2 := hfz (a + 2)
    have f3 := hfz (a + 3)
    have HO4 := Aside0.mk hO4
    have HB4 := Aside0.mk hB14
    obtain ⟨hs0, hs1⟩ := refOf_range (xs.take a ++ xs.drop (a + 4))
    generalize refOf (xs.take a ++ xs.drop (a + 4)) = s at hs0 hs1 hS' ⊢
    clear hO4 hcell hfz hB14
    go_wp2_with (first | (with_reducible refine wp_loop_rounds 5 ?_) | (with_reducible rw [rounds_succ]))
    go_ret
    refine ⟨some ⟨g, 0, none⟩, c2, rfl, ?_, ?_⟩
    · have e0 : s % 256 = ((byt8 s).toNat : Int) := (byt8_toNat _ hs0).symm
      have e1 : s / 256 % 256 = ((byt8 (s / 256)).toNat : Int) := (byt8_toNat _ (by omega)).symm
      have e2 : s / 256 / 256 % 256 = ((byt8 (s / 65536)).toNat : Int) := by rw [byt8_toNat _ (by omega)]; omega
      have e3 : s / 256 / 256 / 256 % 256 = ((byt8 (s / 16777216)).toNat : Int) := by rw [byt8_toNat _ (by omega)]; omega
      rw [e0, e1, e2, e3, hS'.out]
      exact (((HO4.out.store a _).store (a + 1) _).store (a + 2) _).store (a + 3) _
    · exact (((HB4.out.setCell hg1 _).setCell hg1 _).setCell hg1 _).setCell hg1 _
  · have hS : rsealB xs a = xs := by unfold rsealB; rw [hlen, if_neg hP]
    have hS' := Aside0.mk hS
    have hb' := Aside0.mk hb
    clear hS hlen
    by_cases hneg : a < 0
    · have hneg' : decide (a < 0) = true := decide_eq_true hneg
      clear hP hneg
      go_enter Try.func90, Try.ntmps90
      go_wp2_with (at_builtin; refine wpl_a8 (w0 := w) w.heap.size rfl (.tmp 9) (.tmp 10) rfl _ 0 0 [] A n c xs n xs rfl rfl HL.out (hb'.out.alloc _) ((Below.refl _ _).alloc (Nat.le_refl _) _) (by simp) (by omega) (by omega) rfl ?_; clear HL hb; intro A2 c2 w1 hO1 hB1)
      go_ret
      exact ⟨A2, c2, rfl, by rw [hS'.out]; exact hO1.out, hB1.out⟩
    · have hneg' : decide (a < 0) = false := decide_eq_false hneg
      have hgt : decide ((n : Int) - 4 < a) = true := decide_eq_true (by omega)
      clear hP hneg
      go_enter Try.func90, Try.ntmps90
      go_wp2_with (at_builtin; refine wpl_a8 (w0 := w) w.heap.size rfl (.tmp 9) (.tmp 10) rfl _ 0 0 [] A n c xs n xs rfl rfl HL.out (hb'.out.alloc _) ((Below.refl _ _).alloc (Nat.le_refl _) _) (by simp) (by omega) (by omega) rfl ?_; clear HL hb; intro A2 c2 w1 hO1 hB1)
      go_ret
      exact ⟨A2, c2, rfl, by rw [hS'.out]; exact hO1.out, hB1.out⟩

end Go.Proofs.Ytbjfklgmbeaaoaa

set_option linter.unusedVariables false
set_option linter.unusedSimpArgs false
namespace Go.Proofs.Ytbjfklgmbeaaoaa
open Go.RowKit

def st (n : Nat) : Nat := if n % 2 = 1 then n / 2 ^^^ 2197175160 else n / 2
theorem st_bit (n k : Nat) : (st n).testBit k = ((n.testBit (k + 1)) ^^ (n.testBit 0 && Nat.testBit 2197175160 k)) := by
  have h0 : n.testBit 0 = decide (n % 2 = 1) := Nat.testBit_zero n
  unfold st
  by_cases h : n % 2 = 1
  · rw [if_pos h, Nat.testBit_xor, Nat.testBit_div_two, h0]
    simp [h]
  · rw [if_neg h, Nat.testBit_div_two, h0]
    simp [h]
theorem st_xor (a b : Nat) : st (a ^^^ b) = st a ^^^ st b := by
  apply Nat.eq_of_testBit_eq
  intro k
  simp only [st_bit, Nat.testBit_xor]
  cases a.testBit (k + 1) <;> cases b.testBit (k + 1) <;> cases a.testBit 0 <;> cases b.testBit 0 <;> cases Nat.testBit 2197175160 k <;> rfl
theorem st_double (n : Nat) : st (2 * n) = n := by
  unfold st
  rw [if_neg (by omega)]
  omega
theorem st_lt (n : Nat) (h : n < 4294967296) : st n < 4294967296 := by
  unfold st
  split
  · exact Nat.xor_lt_two_pow (n := 32) (by omega) (by omega)
  · omega
def st4 (n : Nat) : Nat := st (st (st (st n)))
theorem st4_xor (a b : Nat) : st4 (a ^^^ b) = st4 a ^^^ st4 b := by simp only [st4, st_xor]
theorem st4_16 (n : Nat) : st4 (16 * n) = n := by
  unfold st4
  have e1 : 16 * n = 2 * (2 * (2 * (2 * n))) := by omega
  rw [e1, st_double, st_double, st_double, st_double]
theorem st4_lt (n : Nat) (h : n < 4294967296) : st4 n < 4294967296 := st_lt _ (st_lt _ (st_lt _ (st_lt _ h)))
theorem split16 (c : Nat) : c = (16 * (c / 16)) ^^^ (c % 16) := by
  have h := Nat.two_pow_add_eq_or_of_lt (i := 4) (b := c % 16) (by omega) (c / 16)
  have e : (16 * (c / 16)) ^^^ (c % 16) = (16 * (c / 16)) ||| (c % 16) := by
    apply Nat.eq_of_testBit_eq
    intro k
    rw [Nat.testBit_xor, Nat.testBit_or]
    have h1 : (c % 16).testBit k = (decide (k < 4) && c.testBit k) := by
      have := Nat.testBit_mod_two_pow c 4 k
      simpa using this
    have h2 : (16 * (c / 16)).testBit k = (decide (4 ≤ k) && (c / 16).testBit (k - 4)) := by
      have := Nat.testBit_two_pow_mul (i := 4) (a := c / 16) (j := k)
      simpa using this
    rw [h1, h2]
    by_cases hk : k < 4
    · have : ¬ 4 ≤ k := by omega
      simp [hk, this]
    · have : 4 ≤ k := by omega
      simp [hk, this]
  rw [e]
  have h' : 2 ^ 4 * (c / 16) + c % 16 = c := by omega
  rw [h'] at h
  exact h
theorem tab_st (i : Nat) (h : i < 16) : tab (i : Int) = (st4 i : Int) := by
  have : ∀ i : Fin 16, tab ((i.val : Nat) : Int) = (st4 i.val : Int) := by decide
  exact this ⟨i, h⟩
theorem bxor (a b : Nat) (ha : a < 4294967296) (hb : b < 4294967296) : bits .xor .u32 (a : Int) (b : Int) = ((a ^^^ b : Nat) : Int) := u32_xor_nat a b ha hb
theorem band15 (a : Nat) (ha : a < 4294967296) : bits .and .u32 (a : Int) 15 = ((a % 16 : Nat) : Int) := by
  have := u32_and_nat a 15 ha (by omega)
  rw [show ((15 : Nat) : Int) = 15 from rfl] at this
  rw [this, nat_mask4]
theorem xor_mod16 (a b : Nat) : (a ^^^ b) % 16 = (a % 16) ^^^ (b % 16) := by
  have := Nat.xor_mod_two_pow (a := a) (b := b) (n := 4)
  simpa using this
theorem nib_nat (c x : Nat) (hc : c < 4294967296) (hx : x < 256) : nib (c : Int) (x : Int) = ((st4 (c ^^^ (x % 16)) : Nat) : Int) := by
  have hcx : c ^^^ x < 4294967296 := Nat.xor_lt_two_pow (n := 32) hc (by omega)
  unfold nib
  rw [bxor c x hc (by omega), band15 _ hcx, tab_st _ (by omega)]
  have e : (c : Int) / 16 = ((c / 16 : Nat) : Int) := by omega
  rw [e, bxor _ _ (by omega) (st4_lt _ (by omega))]
  congr 1
  have h1 : c ^^^ (x % 16) = (16 * (c / 16)) ^^^ ((c ^^^ x) % 16) := by
    have := split16 c
    rw [xor_mod16, ← Nat.xor_assoc, ← this]
  rw [h1, st4_xor, st4_16]
theorem byt_nat (c x : Nat) (hc : c < 4294967296) (hx : x < 256) : byt (c : Int) (x : Int) = ((st4 (st4 (c ^^^ (x % 16)) ^^^ (x / 16)) : Nat) : Int) := by
  have hl : st4 (c ^^^ (x % 16)) < 4294967296 := st4_lt _ (Nat.xor_lt_two_pow (n := 32) hc (by omega))
  unfold byt
  have e : (x : Int) / 16 = ((x / 16 : Nat) : Int) := by omega
  rw [nib_nat c x hc hx, e, nib_nat _ _ hl (by omega)]
  have e2 : x / 16 % 16 = x / 16 := by omega
  rw [e2]

/-- Bit by bit. -/
def dir (c : Nat) : List Bool → Nat
  | [] => c
  | b :: bs => dir (st (c ^^^ b.toNat)) bs
theorem dir_append (c : Nat) (a b : List Bool) : dir c (a ++ b) = dir (dir c a) b := by
  induction a generalizing c with
  | nil => rfl
  | cons x a ih => exact ih _
theorem dir_lt (c : Nat) (l : List Bool) (h : c < 4294967296) : dir c l < 4294967296 := by
  induction l generalizing c with
  | nil => exact h
  | cons b l ih => exact ih _ (st_lt _ (Nat.xor_lt_two_pow (n := 32) h (by cases b <;> decide)))
theorem st_bit1 (c : Nat) (b : Nat) : st (c ^^^ 2 * b) = st c ^^^ b := by rw [st_xor, st_double]
theorem four (c b0 b1 b2 b3 : Nat) (h0 : b0 < 2) (h1 : b1 < 2) (h2 : b2 < 2) (h3 : b3 < 2) :
    st (st (st (st (c ^^^ b0) ^^^ b1) ^^^ b2) ^^^ b3) = st4 (c ^^^ (b0 + 2 * b1 + 4 * b2 + 8 * b3)) := by
  have hb : b0 + 2 * b1 + 4 * b2 + 8 * b3 = b0 ^^^ (2 * b1) ^^^ (2 * (2 * b2)) ^^^ (2 * (2 * (2 * b3))) := by
    have : ∀ a b c d : Fin 2, a.val + 2 * b.val + 4 * c.val + 8 * d.val = a.val ^^^ (2 * b.val) ^^^ (2 * (2 * c.val)) ^^^ (2 * (2 * (2 * d.val))) := by decide
    exact this ⟨b0, h0⟩ ⟨b1, h1⟩ ⟨b2, h2⟩ ⟨b3, h3⟩
  rw [hb, ← Nat.xor_assoc, ← Nat.xor_assoc, ← Nat.xor_assoc]
  unfold st4
  rw [st_bit1, st_bit1, st_bit1, st_bit1, st_bit1, st_bit1]
theorem byt_dir (c x : Nat) (hc : c < 4294967296) (hx : x < 256) : byt (c : Int) (x : Int) = ((dir c (bit8 (x : Int)) : Nat) : Int) := by
  rw [byt_nat c x hc hx]
  congr 1
  have ht : ∀ n : Nat, (n % 2 == 1).toNat = n % 2 := by
    intro n
    rcases Nat.mod_two_eq_zero_or_one n with h | h <;> rw [h] <;> rfl
  have e : bit8 (x : Int) = [x % 2 == 1, x / 2 % 2 == 1, x / 4 % 2 == 1, x / 8 % 2 == 1, x / 16 % 2 == 1, x / 32 % 2 == 1, x / 64 % 2 == 1, x / 128 % 2 == 1] := by
    have e1 : ((x : Int) % 2 == 1) = (x % 2 == 1) := by rw [Bool.eq_iff_iff]; simp only [beq_iff_eq]; omega
    have e2 : ((x : Int) / 2 % 2 == 1) = (x / 2 % 2 == 1) := by rw [Bool.eq_iff_iff]; simp only [beq_iff_eq]; omega
    have e4 : ((x : Int) / 4 % 2 == 1) = (x / 4 % 2 == 1) := by rw [Bool.eq_iff_iff]; simp only [beq_iff_eq]; omega
    have e8 : ((x : Int) / 8 % 2 == 1) = (x / 8 % 2 == 1) := by rw [Bool.eq_iff_iff]; simp only [beq_iff_eq]; omega
    have e16 : ((x : Int) / 16 % 2 == 1) = (x / 16 % 2 == 1) := by rw [Bool.eq_iff_iff]; simp only [beq_iff_eq]; omega
    have e32 : ((x : Int) / 32 % 2 == 1) = (x / 32 % 2 == 1) := by rw [Bool.eq_iff_iff]; simp only [beq_iff_eq]; omega
    have e64 : ((x : Int) / 64 % 2 == 1) = (x / 64 % 2 == 1) := by rw [Bool.eq_iff_iff]; simp only [beq_iff_eq]; omega
    have e128 : ((x : Int) / 128 % 2 == 1) = (x / 128 % 2 == 1) := by rw [Bool.eq_iff_iff]; simp only [beq_iff_eq]; omega
    unfold bit8
    rw [e1, e2, e4, e8, e16, e32, e64, e128]
  rw [e]
  simp only [dir, ht]
  rw [four _ _ _ _ _ (by omega) (by omega) (by omega) (by omega), four _ _ _ _ _ (by omega) (by omega) (by omega) (by omega)]
  have f1 : x % 2 + 2 * (x / 2 % 2) + 4 * (x / 4 % 2) + 8 * (x / 8 % 2) = x % 16 := by omega
  have f2 : x / 16 % 2 + 2 * (x / 32 % 2) + 4 * (x / 64 % 2) + 8 * (x / 128 % 2) = x / 16 := by omega
  rw [f1, f2]
theorem updL_dir (c : Nat) (xs : List UInt8) (hc : c < 4294967296) : updL (c : Int) xs = ((dir c (bitsL xs) : Nat) : Int) := by
  induction xs generalizing c with
  | nil => rfl
  | cons x xs ih =>
    have hx := x.toNat_lt
    rw [updL, byt_dir c _ hc (by omega), ih _ (dir_lt _ _ hc)]
    rw [show bitsL (x :: xs) = bit8 (x.toNat : Int) ++ bitsL xs from rfl, dir_append]
/-- What Update tells, by bits. -/
theorem updI_dir (s : Nat) (xs : List UInt8) (hs : s < 4294967296) : updI (s : Int) xs = ((4294967295 ^^^ dir (4294967295 ^^^ s) (bitsL xs) : Nat) : Int) := by
  have h1 : 4294967295 ^^^ s < 4294967296 := Nat.xor_lt_two_pow (n := 32) (by omega) hs
  unfold updI
  have e : bits .xor .u32 4294967295 (s : Int) = ((4294967295 ^^^ s : Nat) : Int) := bxor 4294967295 s (by omega) hs
  rw [e, updL_dir _ _ h1]
  exact bxor 4294967295 _ (by omega) (dir_lt _ _ h1)
/-! The division -/
theorem getD_set (l : List Bool) (i k : Nat) (x : Bool) (hi : i < l.length) : (l.set i x).getD k false = if k = i then x else l.getD k false := by
  simp only [List.getD_eq_getElem?_getD, List.getElem?_set]
  by_cases h : k = i
  · subst h; simp [hi]
  · have h' : ¬ i = k := fun e => h e.symm
    simp [h, h']
theorem flipAt_get (l : List Bool) (i k : Nat) (hi : i < l.length) : (flipAt l i).getD k false = ((l.getD k false) ^^ decide (k = i)) := by
  unfold flipAt
  rw [getD_set _ _ _ _ hi]
  by_cases h : k = i
  · subst h; simp
  · simp [h]
theorem flipsG_get (i : Nat) (ps : List Nat) (hnd : ps.Nodup) (hp : ∀ p ∈ ps, p ≤ 32) (l : List Bool) (hl : i + 32 < l.length) (k : Nat) :
    (ps.foldl (fun l p => flipAt l (i + 32 - p)) l).getD k false = ((l.getD k false) ^^ decide (∃ p ∈ ps, k = i + 32 - p)) := by
  induction ps generalizing l with
  | nil => simp
  | cons p ps ih =>
    rw [List.nodup_cons] at hnd
    rw [List.foldl_cons, ih hnd.2 (fun q hq => hp q (List.mem_cons_of_mem _ hq)) _ (by rw [flipAt_length]; exact hl), flipAt_get _ _ _ (by omega)]
    have h1 := hp p (List.mem_cons_self)
    by_cases ha : k = i + 32 - p
    · have hn : ¬ ∃ q ∈ ps, k = i + 32 - q := by
        rintro ⟨q, hq, he⟩
        have h2 := hp q (List.mem_cons_of_mem _ hq)
        have : p = q := by omega
        subst this
        exact hnd.1 hq
      have hy : ∃ q ∈ p :: ps, k = i + 32 - q := ⟨p, List.mem_cons_self, ha⟩
      rw [decide_eq_true ha, decide_eq_false hn, decide_eq_true hy]
      simp
    · have he : (∃ q ∈ p :: ps, k = i + 32 - q) ↔ ∃ q ∈ ps, k = i + 32 - q := by
        constructor
        · rintro ⟨q, hq, he⟩
          rcases List.mem_cons.1 hq with rfl | hq
          · exact absurd he ha
          · exact ⟨q, hq, he⟩
        · rintro ⟨q, hq, he⟩
          exact ⟨q, List.mem_cons_of_mem _ hq, he⟩
      have e3 : decide (∃ q ∈ p :: ps, k = i + 32 - q) = decide (∃ q ∈ ps, k = i + 32 - q) := decide_eq_decide.2 he
      rw [decide_eq_false ha, e3]
      simp
theorem pbit (i k : Nat) : decide (∃ p ∈ pwl, i + 1 + k = i + 32 - p) = Nat.testBit 2197175160 k := by
  by_cases hk : k < 32
  · have h : ∀ k : Fin 32, decide (∃ p ∈ pwl, k.val + p = 31) = Nat.testBit 2197175160 k.val := by decide
    rw [← h ⟨k, hk⟩]
    apply decide_eq_decide.2
    constructor
    · rintro ⟨p, hp, he⟩
      exact ⟨p, hp, by show k + p = 31; omega⟩
    · rintro ⟨p, hp, he⟩
      have he' : k + p = 31 := he
      exact ⟨p, hp, by omega⟩
  · have h1 : Nat.testBit 2197175160 k = false := by
      apply Nat.testBit_lt_two_pow
      calc 2197175160 < 2 ^ 32 := by omega
        _ ≤ 2 ^ k := Nat.pow_le_pow_right (by omega) (by omega)
    rw [h1]
    apply decide_eq_false
    rintro ⟨p, hp, he⟩
    omega
theorem stepR_get (l : List Bool) (i k : Nat) (hl : i + 32 < l.length) : (stepR l i).getD (i + 1 + k) false = ((l.getD (i + 1 + k) false) ^^ (l.getD i false && Nat.testBit 2197175160 k)) := by
  unfold stepR
  cases h : l.getD i false with
  | false => simp
  | true =>
    rw [if_pos rfl]
    unfold flips
    rw [show pwl.take 17 = pwl from rfl, flipsG_get i pwl (by decide) (by decide) _ (by rw [List.length_set]; exact hl), getD_set _ _ _ _ (by omega), if_neg (by omega), pbit]
    simp
/-- What the division has come to, step by step. -/
theorem divR_get (m : Nat → Bool) (l : List Bool) (N : Nat) (hl : l.length = N + 32) (h0 : ∀ k, l.getD k false = ((Nat.testBit 4294967295 k) ^^ m k)) (i : Nat) (hi : i ≤ N) (bs : List Bool) (hb : bs.length = i) (hbm : ∀ j, j < i → bs.getD j false = m j) :
    ∀ k, (divR l i).getD (i + k) false = (((dir 4294967295 bs).testBit k) ^^ m (i + k)) := by
  induction i generalizing bs with
  | zero =>
    intro k
    obtain rfl : bs = [] := List.eq_nil_of_length_eq_zero hb
    rw [divR, Nat.zero_add, h0]
    rfl
  | succ i ih =>
    intro k
    obtain ⟨b0, b, rfl⟩ : ∃ b0 b, bs = b0 ++ [b] := by
      refine ⟨bs.take i, bs.getD i false, ?_⟩
      have : bs.take (i + 1) = bs := List.take_of_length_le (by omega)
      rw [← this, List.take_succ_eq_append_getElem (by omega), List.take_append_of_le_length (by simp; omega), List.take_take]
      simp [List.getD_eq_getElem?_getD, List.getElem?_append, List.getElem?_eq_getElem (show i < bs.length by omega), hb]
    have hlen : b0.length = i := by simp at hb; omega
    have hb0 : ∀ j, j < i → b0.getD j false = m j := by
      intro j hj
      rw [← hbm j (by omega)]
      simp [List.getD_eq_getElem?_getD, List.getElem?_append, hlen, hj]
    have hbi : b = m i := by
      rw [← hbm i (by omega)]
      simp [List.getD_eq_getElem?_getD, List.getElem?_append, hlen]
    have ih' := ih (by omega) b0 hlen hb0
    have e1 := ih' (1 + k)
    have e0 := ih' 0
    rw [divR, stepR_get _ _ _ (by rw [divR_length, hl]; omega)]
    rw [Nat.add_zero] at e0
    rw [← Nat.add_assoc] at e1
    rw [e1, e0, dir_append]
    show _ = (((st (dir 4294967295 b0 ^^^ b.toNat)).testBit k) ^^ m (i + 1 + k))
    rw [st_bit, Nat.testBit_xor, Nat.testBit_xor]
    have t0 : b.toNat.testBit 0 = b := by cases b <;> rfl
    have t1 : b.toNat.testBit (k + 1) = false := by
      apply Nat.testBit_lt_two_pow
      have : b.toNat < 2 := by cases b <;> decide
      calc b.toNat < 2 ^ 1 := by omega
        _ ≤ 2 ^ (k + 1) := Nat.pow_le_pow_right (by omega) (by omega)
    rw [t0, t1, ← hbi, Nat.add_comm 1 k]
    cases (dir 4294967295 b0).testBit (k + 1) <;> cases (dir 4294967295 b0).testBit 0 <;> cases m (i + 1 + k) <;> cases b <;> cases Nat.testBit 2197175160 k <;> rfl
theorem flipF_get (l : List Bool) (n k : Nat) (hn : n ≤ l.length) : (flipF l n).getD k false = ((decide (k < n)) ^^ (l.getD k false)) := by
  induction n with
  | zero => simp [flipF]
  | succ n ih =>
    rw [flipF, flipAt_get _ _ _ (by rw [flipF_length]; omega), ih (by omega)]
    by_cases h1 : k = n
    · subst h1; simp
    · by_cases h2 : k < n
      · have : k < n + 1 := by omega
        simp [h1, h2, this]
      · have : ¬ k < n + 1 := by omega
        simp [h1, h2, this]
theorem ones_bit (k : Nat) : Nat.testBit 4294967295 k = decide (k < 32) := by
  have := Nat.testBit_two_pow_sub_one 32 k
  simpa using this
theorem numP_shift (l : List Bool) (q : Nat) (hq : q < 4294967296) (h : ∀ k, k < 32 → l.getD k false = !q.testBit k) (m : Nat) (hm : m ≤ 32) : numP l m = ((q >>> (32 - m) : Nat) : Int) := by
  induction m with
  | zero =>
    rw [numP]
    have : q >>> 32 = 0 := by rw [Nat.shiftRight_eq_div_pow]; omega
    rw [show 32 - 0 = 32 from rfl, this]
    rfl
  | succ m ih =>
    rw [numP, ih (by omega), h (31 - m) (by omega)]
    have e1 : q >>> (32 - m) = (q >>> (31 - m)) / 2 := by rw [show 32 - m = (31 - m) + 1 by omega, Nat.shiftRight_succ]
    have e2 : q.testBit (31 - m) = decide ((q >>> (31 - m)) % 2 = 1) := by rw [Nat.testBit_eq_decide_div_mod_eq, Nat.shiftRight_eq_div_pow]
    have e3 : 32 - (m + 1) = 31 - m := by omega
    have hb : q >>> (31 - m) < 4294967296 := by rw [Nat.shiftRight_eq_div_pow]; exact Nat.lt_of_le_of_lt (Nat.div_le_self _ _) hq
    rw [e1, e2, e3]
    generalize q >>> (31 - m) = a at hb
    rcases Nat.mod_two_eq_zero_or_one a with h2 | h2
    · rw [if_pos (by simp [h2])]
      omega
    · rw [if_neg (by simp [h2])]
      omega
theorem flip_pad (bl : List Bool) (n k : Nat) : (flipF (bl ++ List.replicate n false) n).getD k false = (decide (k < n) ^^ (bl.getD k false)) := by
  rw [flipF_get _ _ _ (by simp)]
  congr 1
  simp only [List.getD_eq_getElem?_getD, List.getElem?_append]
  by_cases h : k < bl.length
  · simp [h]
  · simp only [h, if_false]
    rw [List.getElem?_eq_none (show bl.length ≤ k by omega), List.getElem?_replicate]
    split <;> rfl
theorem numP_core (bl L : List Bool) (hlen : L.length = bl.length + 32) (hm0 : ∀ k, L.getD k false = ((Nat.testBit 4294967295 k) ^^ (bl.getD k false))) :
    numP (restL L) 32 = ((4294967295 ^^^ dir 4294967295 bl : Nat) : Int) := by
  have hlt : dir 4294967295 bl < 4294967296 := dir_lt _ _ (by omega)
  have hq : 4294967295 ^^^ dir 4294967295 bl < 4294967296 := Nat.xor_lt_two_pow (n := 32) (by omega) hlt
  have hg := divR_get (fun k => bl.getD k false) L bl.length hlen hm0 bl.length (Nat.le_refl _) bl rfl (fun _ _ => rfl)
  have hR : ∀ k, k < 32 → (restL L).getD k false = !(4294967295 ^^^ dir 4294967295 bl).testBit k := by
    intro k hk
    have hr : restL L = (divR L bl.length).drop bl.length := by
      unfold restL
      rw [hlen]
      split
      · rw [Nat.add_sub_cancel]
      · have : bl.length = 0 := by omega
        rw [this]; rfl
    rw [hr]
    have e : (List.drop bl.length (divR L bl.length)).getD k false = (divR L bl.length).getD (bl.length + k) false := by
      simp [List.getD_eq_getElem?_getD, List.getElem?_drop]
    rw [e, hg k, Nat.testBit_xor, ones_bit]
    have e2 : bl.getD (bl.length + k) false = false := by
      simp [List.getD_eq_getElem?_getD, List.getElem?_eq_none (show bl.length ≤ bl.length + k by omega)]
    rw [e2]
    simp [hk]
  rw [numP_shift _ _ hq hR 32 (by omega)]
  rfl
/-- The reference's sum is Update's. -/
theorem refOf_dir (xs : List UInt8) : refOf xs = ((4294967295 ^^^ dir 4294967295 (bitsL xs) : Nat) : Int) := by
  unfold refOf
  refine numP_core (bitsL xs) _ ?_ ?_
  · rw [flipF_length, List.length_append, List.length_replicate]
  · intro k
    rw [ones_bit]
    exact flip_pad (bitsL xs) 32 k
theorem refOf_eq (xs : List UInt8) : refOf xs = updI 0 xs := by
  have := updI_dir 0 xs (by omega)
  rw [refOf_dir]
  exact this.symm
theorem bitsL_append (xs ys : List UInt8) : bitsL (xs ++ ys) = bitsL xs ++ bitsL ys := by simp [bitsL]
/-- What comes in parts. -/
theorem updI_append (xs ys : List UInt8) : updI (updI 0 xs) ys = updI 0 (xs ++ ys) := by
  have h1 := updI_dir 0 xs (by omega)
  have h2 := updI_dir 0 (xs ++ ys) (by omega)
  have hlt : dir 4294967295 (bitsL xs) < 4294967296 := dir_lt _ _ (by omega)
  have e0 : ((0 : Nat) : Int) = 0 := rfl
  rw [e0, Nat.xor_zero] at h1 h2
  rw [h1, h2, updI_dir _ _ (Nat.xor_lt_two_pow (n := 32) (by omega) hlt), ← Nat.xor_assoc, Nat.xor_self, Nat.zero_xor, bitsL_append, dir_append]
theorem rsealB_eq (xs : List UInt8) (a : Int) : rsealB xs a = sealB xs a := by
  unfold rsealB sealB
  split
  · rw [refOf_eq, ← updI_append]; rfl
  · rfl

end Go.Proofs.Ytbjfklgmbeaaoaa
