/- Words of this seat's own texts: slices of bytes that are read or owned, worlds that have grown, cuts of slices. -/
import Derived.Test.YtcegphnhohpegaaProg
import Derived.WalkKit
import Derived.WalkSpells
import Derived.WalkLawsBesides
import Derived.BigQuiet
import Derived.Deep.QuietTactic
import Derived.Deep.LoopGhost
import Derived.Deep.DeepFit
import Derived.Deep.Draws
import Derived.KernelRfl
import Derived.RowKit3
import Derived.LoopN
import Derived.Lib.SlBytesConst
import Derived.Lib.SmallJoins
import Derived.Deep.RegionWith
import Derived.Deep.RegionHeld3
import Derived.Deep.RegionLaw
import Derived.Maps.AppendAt
import Derived.Laws.OwnMore
set_option linter.unusedVariables false
set_option linter.unusedSimpArgs false
namespace Go.Proofs.Ytcegphnhohpegaa
open Go.RowKit

/-- A fact that the walk's simp does not look into. -/
structure Aside0 (p : Prop) : Prop where mk :: (out : p)

theorem ret_bool {a b : Bool} (h : a = b) : Ending.returned (.bool a) = .returned (.bool b) := by rw [h]
theorem ret_int {k : IntKind} {a b : Int} (h : a = b) : Ending.returned (.int k a) = .returned (.int k b) := by rw [h]
theorem ret_val {a b : Value} (h : a = b) : Ending.returned a = .returned b := by rw [h]

theorem add_plain (g j : Nat) : (⟨g, 0, none⟩ : Addr).add j = ⟨g, j, none⟩ := by unfold Addr.add; split <;> simp_all

/-! Bytes -/
def b8 (xs : List UInt8) (i : Nat) : Int := ((xs.getD i 0).toNat : Int)
theorem b8_lo (xs : List UInt8) (i : Nat) : 0 ≤ b8 xs i := by unfold b8; omega
theorem b8_hi (xs : List UInt8) (i : Nat) : b8 xs i ≤ 255 := by unfold b8; have := (xs.getD i 0).toNat_lt; omega
def u8v (xs : List UInt8) : List Value := xs.map fun x => .int .u8 (x.toNat : Int)
theorem u8v_length (xs : List UInt8) : (u8v xs).length = xs.length := by simp [u8v]
theorem u8v_append (xs ys : List UInt8) : u8v (xs ++ ys) = u8v xs ++ u8v ys := by simp [u8v]
theorem u8v_get (xs : List UInt8) (j : Nat) (h : j < xs.length) : (u8v xs)[j]? = some (.int .u8 (b8 xs j)) := by
  simp [u8v, b8, List.getElem?_eq_getElem h, List.getD_eq_getElem?_getD]
theorem u8v_one (xs : List UInt8) : ∀ u ∈ u8v xs, u.oneCell' = true := by
  intro u hu
  simp only [u8v, List.mem_map] at hu
  obtain ⟨q, _, rfl⟩ := hu
  rfl

/-! A slice of bytes that is read -/
structure Bs (w : World) (A : Option Addr) (n c : Nat) (xs : List UInt8) : Prop where
  len : xs.length = n
  le : n ≤ c
  cap : c ≤ 9223372036854775807
  lim : n ≤ 140737488355328
  cells : 0 < n → ∃ ad, A = some ad ∧ ∀ j, j < n → w.cell? (ad.add j) = some (.int .u8 (b8 xs j))

theorem Bs.at_ {w : World} {A : Option Addr} {n c : Nat} {xs : List UInt8} (h : Bs w A n c xs) (i : Int) (h0 : 0 ≤ i) (h1 : i < (n : Int)) :
    ∃ ad, A = some ad ∧ w.cell? (ad.add i.toNat) = some (.int .u8 (b8 xs i.toNat)) := by
  obtain ⟨ad, e, hc⟩ := h.cells (by omega)
  exact ⟨ad, e, hc _ (by omega)⟩
theorem Bs.atN {w : World} {A : Option Addr} {n c : Nat} {xs : List UInt8} (h : Bs w A n c xs) (i : Nat) (h1 : i < n) :
    ∃ ad, A = some ad ∧ w.cell? (ad.add i) = some (.int .u8 (b8 xs i)) := by
  obtain ⟨ad, e, hc⟩ := h.cells (by omega)
  exact ⟨ad, e, hc _ (by omega)⟩
theorem Bs.nil (w : World) (A : Option Addr) (c : Nat) (hc : c ≤ 9223372036854775807) : Bs w A 0 c [] := ⟨rfl, Nat.zero_le _, hc, by omega, fun h => absurd h (by omega)⟩
theorem cell_below {w w1 : World} (h : Below w.heap.size w w1) {a : Addr} {v : Value} (hc : w.cell? a = some v) : w1.cell? a = some v := (h.cell (World.block_lt_of_cell? w a hc)).trans hc
theorem Bs.below {w w1 : World} {A : Option Addr} {n c : Nat} {xs : List UInt8} (h : Bs w A n c xs) (hb : Below w.heap.size w w1) : Bs w1 A n c xs :=
  ⟨h.len, h.le, h.cap, h.lim, fun hn => by
    obtain ⟨ad, e, hc⟩ := h.cells hn
    exact ⟨ad, e, fun j hj => cell_below hb (hc j hj)⟩⟩
theorem Bs.map {w w1 : World} {A : Option Addr} {n c : Nat} {xs : List UInt8} (h : Bs w A n c xs) (hb : ∀ a v, w.cell? a = some v → w1.cell? a = some v) : Bs w1 A n c xs :=
  ⟨h.len, h.le, h.cap, h.lim, fun hn => by
    obtain ⟨ad, e, hc⟩ := h.cells hn
    exact ⟨ad, e, fun j hj => hb _ _ (hc j hj)⟩⟩
theorem below_alloc {B : Nat} {w W : World} (h : Below B w W) (hB : B ≤ W.heap.size) (o : Obj) : Below B w (W.alloc o) := h.alloc hB o
theorem below_drew {B : Nat} {w W : World} (h : Below B w W) : Below B w W.drew := ⟨h.os, h.tape, h.output, h.size, h.block⟩
theorem below_drawn {B : Nat} {w W : World} (h : Below B w W) (n : Nat) : Below B w (W.drewN n) := ⟨h.os, h.tape, h.output, h.size, h.block⟩
theorem Bs.alloc {w : World} {A : Option Addr} {n c : Nat} {xs : List UInt8} (h : Bs w A n c xs) (o : Obj) : Bs (w.alloc o) A n c xs := h.below ((Below.refl _ _).alloc (Nat.le_refl _) o)
theorem Bs.drewN {w : World} {A : Option Addr} {n c : Nat} {xs : List UInt8} (h : Bs w A n c xs) (m : Nat) : Bs (w.drewN m) A n c xs := h.map (fun _ _ h => h)
theorem Bs.drew {w : World} {A : Option Addr} {n c : Nat} {xs : List UInt8} (h : Bs w A n c xs) : Bs w.drew A n c xs := h.map (fun _ _ h => h)
theorem below_then {B : Nat} {w w1 w2 : World} (h : Below B w w1) (hB : B ≤ w1.heap.size) (k : Below w1.heap.size w1 w2) : Below B w w2 :=
  h.trans ⟨k.os, k.tape, k.output, k.size, fun i hi => k.block i (Nat.lt_of_lt_of_le hi hB)⟩
/-- What a walk wants of a world behind a call. -/
theorem bcell {W w1 : World} (hb : Below W.heap.size W w1) : (∀ b o, b < W.heap.size → w1.cell? ⟨b, o, none⟩ = W.cell? ⟨b, o, none⟩) ∧ (∀ b o, b < W.heap.size → w1.frozen? ⟨b, o, none⟩ = W.frozen? ⟨b, o, none⟩) :=
  ⟨fun b o h => hb.cell (p := ⟨b, o, none⟩) h, fun b o h => hb.frozen (p := ⟨b, o, none⟩) h⟩

/-! Cuts of a slice -/
def cutA (A : Option Addr) (c i : Nat) : Option Addr := if c = i then A else A.map (·.add i)
theorem add_add (ad : Addr) (i j : Nat) : (ad.add i).add j = ad.add (i + j) := by
  unfold Addr.add
  by_cases h1 : i = 0 <;> by_cases h2 : j = 0 <;> simp [h1, h2, Nat.add_assoc]
theorem Bs.take {w : World} {A : Option Addr} {n c : Nat} {xs : List UInt8} (h : Bs w A n c xs) (i : Nat) (hi : i ≤ n) : Bs w A i c (xs.take i) := by
  refine ⟨by rw [List.length_take, h.len]; omega, by have := h.le; omega, h.cap, by have := h.lim; omega, fun hp => ?_⟩
  obtain ⟨ad, e, hc⟩ := h.cells (by omega)
  refine ⟨ad, e, fun j hj => ?_⟩
  rw [hc j (by omega)]
  simp [b8, List.getD_eq_getElem?_getD, hj]
theorem Bs.drop {w : World} {A : Option Addr} {n c : Nat} {xs : List UInt8} (h : Bs w A n c xs) (i : Nat) (hi : i ≤ n) : Bs w (cutA A c i) (n - i) (c - i) (xs.drop i) := by
  refine ⟨by rw [List.length_drop, h.len], by have := h.le; omega, by have := h.cap; omega, by have := h.lim; omega, fun hp => ?_⟩
  obtain ⟨ad, rfl, hcell⟩ := h.cells (by omega)
  have := h.le
  unfold cutA
  rw [if_neg (by omega)]
  refine ⟨ad.add i, rfl, fun j hj => ?_⟩
  rw [add_add, hcell (i + j) (by omega)]
  simp [b8, List.getD_eq_getElem?_getD, List.getElem?_drop]

/-! The type of the slices of bytes -/
theorem elem8 : Try.prog.elem 22 = 5 := by simp [Program.elem, Try.underlying22]
theorem info8 : (Try.prog.info? 5).map (fun i => (i.zero, i.size, i.bytes)) = some (some (.int .u8 0), 1, 1) := by kernel_rfl
theorem und8 : Try.prog.underlying 22 = some (.slice (Try.prog.elem 22)) := by rw [elem8]; exact Try.underlying22
theorem size8 (w : World) : (sizeOf (Try.prog.elem 22)).run Try.prog w = .ok 1 w := by
  rw [elem8]
  obtain ⟨i, hi, hz⟩ := Option.map_eq_some_iff.1 info8
  simp only [Prod.mk.injEq] at hz
  simp [sizeOf, typeInfo, hi, hz.2.1]
theorem sl8_lh (w : World) (A : Option Addr) (n c : Nat) (kl kh : IntKind) (l h : Int) (h0 : 0 ≤ l) (h1 : l ≤ h) (h2 : h ≤ (c : Int)) :
    (Instr.slice 22 (.slice A n c) (some (.int kl l)) (some (.int kh h)) none).run Try.prog w = .ok (.slice (cutA A c l.toNat) (h.toNat - l.toNat) (c - l.toNat)) w := by
  rw [run_slice_lh w _ A n c und8 kl kh l h h0 h1 h2, size8]
  simp [sliced, cutA, Result.andThen]
theorem sl8_h (w : World) (A : Option Addr) (n c : Nat) (kh : IntKind) (h : Int) (h0 : 0 ≤ h) (h2 : h ≤ (c : Int)) :
    (Instr.slice 22 (.slice A n c) none (some (.int kh h)) none).run Try.prog w = .ok (.slice A h.toNat c) w := by
  rw [run_slice_h w _ A n c und8 kh h h0 h2, size8]
  simp [sliced, Result.andThen, Addr.add]
theorem sl8_l (w : World) (A : Option Addr) (n c : Nat) (kl : IntKind) (l : Int) (h0 : 0 ≤ l) (h1 : l ≤ (n : Int)) :
    (Instr.slice 22 (.slice A n c) (some (.int kl l)) none none).run Try.prog w = .ok (.slice (cutA A c l.toNat) (n - l.toNat) (c - l.toNat)) w := by
  rw [run_slice_l w _ A n c und8 kl l h0 h1, size8]
  simp [sliced, cutA, Result.andThen]

/-! A slice of bytes that the call itself made -/
structure Ow (w : World) (base : Nat) (A : Option Addr) (n c : Nat) (xs : List UInt8) : Prop where
  row : w.ownsRow base 5 1 (.slice A n c) n (u8v xs)
  lim : n ≤ 140737488355328
theorem own_form {w : World} {base n : Nat} {e : TypeId} {size : Nat} {v : Value} {xs : List Value} (h : w.ownsRow base e size v n xs) : ∃ A c, v = .slice A n c := by
  rcases h.2 with ⟨rfl, rfl⟩ | ⟨g, cap, cur, rfl, _⟩
  · exact ⟨none, 0, rfl⟩
  · exact ⟨_, cap, rfl⟩
theorem Ow.of_row {w : World} {base n : Nat} {v : Value} {xs : List UInt8} (h : w.ownsRow base 5 1 v n (u8v xs)) (hl : n ≤ 140737488355328) : ∃ A c, v = .slice A n c ∧ Ow w base A n c xs := by
  obtain ⟨A, c, rfl⟩ := own_form h
  exact ⟨A, c, rfl, h, hl⟩
theorem Ow.len {w : World} {base n c : Nat} {A : Option Addr} {xs : List UInt8} (h : Ow w base A n c xs) : xs.length = n := by
  have := h.row.1; rw [u8v_length] at this; omega
theorem Ow.bs {w : World} {base n c : Nat} {A : Option Addr} {xs : List UInt8} (h : Ow w base A n c xs) : Bs w A n c xs := by
  have hl := h.len
  rcases h.row.2 with ⟨hv, h0⟩ | ⟨g, cap, cur, hv, hg, hh, hn, hm, hcs, ht⟩
  · injection hv with h1 h2 h3
    subst h1; subst h2; subst h3
    exact ⟨hl, Nat.le_refl _, by omega, by omega, fun h => absurd h (by omega)⟩
  · injection hv with h1 h2 h3
    subst h1; subst h3
    refine ⟨hl, hn, by simp only [maxLen] at hm; omega, h.lim, fun _ => ⟨_, rfl, fun j hj => ?_⟩⟩
    exact h.row.cells (g := g) rfl j _ (u8v_get xs j (by omega))
theorem Ow.kept {w w1 : World} {base n c : Nat} {A : Option Addr} {xs : List UInt8} (h : Ow w base A n c xs) (hb : ∀ g, A = some ⟨g, 0, none⟩ → g < w.heap.size → w1.heap[g]? = w.heap[g]?) : Ow w1 base A n c xs := by
  refine ⟨⟨h.row.1, ?_⟩, h.lim⟩
  rcases h.row.2 with hn | ⟨g, cap, cur, hv, hg, hh, rest⟩
  · exact .inl hn
  · refine .inr ⟨g, cap, cur, hv, hg, ?_, rest⟩
    injection hv with h1 _ _
    rw [hb g h1 (Array.getElem?_eq_some_iff.1 hh).1]
    exact hh
theorem Ow.below {w w1 : World} {base n c : Nat} {A : Option Addr} {xs : List UInt8} (h : Ow w base A n c xs) (hb : Below w.heap.size w w1) : Ow w1 base A n c xs :=
  h.kept fun g _ hg => hb.block g hg
theorem Ow.alloc {w : World} {base n c : Nat} {A : Option Addr} {xs : List UInt8} (h : Ow w base A n c xs) (o : Obj) : Ow (w.alloc o) base A n c xs := h.below ((Below.refl _ _).alloc (Nat.le_refl _) o)
theorem Ow.drewN {w : World} {base n c : Nat} {A : Option Addr} {xs : List UInt8} (h : Ow w base A n c xs) (m : Nat) : Ow (w.drewN m) base A n c xs := h.kept fun _ _ _ => rfl
theorem Ow.mono {w : World} {base base' n c : Nat} {A : Option Addr} {xs : List UInt8} (h : Ow w base A n c xs) (hb : base' ≤ base) : Ow w base' A n c xs := by
  refine ⟨⟨h.row.1, ?_⟩, h.lim⟩
  rcases h.row.2 with hn | ⟨g, cap, cur, hv, hg, rest⟩
  · exact .inl hn
  · exact .inr ⟨g, cap, cur, hv, by omega, rest⟩
theorem Ow.nil (w : World) (base : Nat) : Ow w base none 0 0 [] := ⟨World.ownsRow_nil _ _ _ _, by omega⟩
theorem Ow.lit0 (w : World) (base N : Nat) (hN : w.heap.size = N) (h : base ≤ w.heap.size) : Ow (w.alloc (.cells #[] 5)) base (some ⟨N, 0, none⟩) 0 0 [] := by
  subst hN
  exact ⟨by simpa [u8v] using World.ownsRow_lit (base := base) (e := 5) (size := 1) w #[] 0 h (by simp [maxLen]) (by simp), by omega⟩
theorem Ow.head {w : World} {base n c : Nat} {A : Option Addr} {xs : List UInt8} (h : Ow w base A n c xs) (h0 : 0 < n) :
    ∃ g, A = some ⟨g, 0, none⟩ ∧ base ≤ g ∧ g < w.heap.size ∧ ∀ j, w.frozen? ⟨g, j, none⟩ = false := by
  rcases h.row.2 with ⟨hv, hn⟩ | ⟨g, cap, cur, hv, hg, hh, _⟩
  · omega
  · injection hv with h1 _ _
    exact ⟨g, h1, hg, (Array.getElem?_eq_some_iff.1 hh).1, fun j => by simp [World.frozen?, hh]⟩
theorem Ow.store {w : World} {base g n c : Nat} {xs : List UInt8} (h : Ow w base (some ⟨g, 0, none⟩) n c xs) (j : Nat) (x : UInt8) :
    Ow (w.setCell ⟨g, j, none⟩ (.int .u8 (x.toNat : Int))) base (some ⟨g, 0, none⟩) n c (xs.set j x) := by
  have hs := (h.row.stored j (.int .u8 (x.toNat : Int))).1
  have he : (u8v xs).set j (.int .u8 (x.toNat : Int)) = u8v (xs.set j x) := by simp [u8v, List.map_set]
  rw [he] at hs
  exact ⟨hs, h.lim⟩

/-- A literal row of bytes, read. -/
theorem Bs.lit (w : World) (N : Nat) (hN : w.heap.size = N) (C : Array Value) (T : TypeId) (fr : Nat × Nat) (n c : Nat) (xs : List UInt8) (hC : C = (u8v xs).toArray) (hn : xs.length = n) (hc : n ≤ c) (hc' : c ≤ 9223372036854775807) (hl : n ≤ 140737488355328) : Bs (w.alloc (.cells C T fr)) (some ⟨N, 0, none⟩) n c xs := by
  subst hN
  refine ⟨hn, hc, hc', hl, fun _ => ⟨_, rfl, fun j hj => ?_⟩⟩
  rw [add_plain, World.cell?_alloc_mark, hC]
  simpa using u8v_get xs j (by omega)

/-! append(v, x...), whatever is appended -/
section
variable {P : Program} {ops : Array Oper} {rest : List Oper} {o : Oper} {a : Act} {Q : Exit → Act → World → Prop}
theorem wpl_append {w0 W : World} (base : Nat) (hgd : o.guard = none) (s x : Operand) (t e : TypeId) (z : Value) (size bytes : Nat)
    (ho : o.op = .call { callee := .builtin .append, args := #[s, x], argTypes := #[t, t] })
    (ht : P.underlying t = some (.slice e)) (hinfo : (P.info? e).map (fun i => (i.zero, i.size, i.bytes)) = some (some z, size, bytes)) (hzs : z.cells.size = size) (hsz : 0 < size) (hb0 : 0 < bytes)
    (v : Value) (n : Nat) (xs : List Value) (A : Option Addr) (m c : Nat) (news : List Value) (hs : a.eval s = v) (hx : a.eval x = .slice A m c)
    (HO : W.ownsRow base e size v n xs) (hnl : news.length = m * size) (hA : 0 < m → ∃ ad, A = some ad ∧ ∀ j u, news[j]? = some u → W.cell? (ad.add j) = some u) (h1 : ∀ u ∈ news, u.oneCell' = true)
    (HB : Below base w0 W) (hbase : base ≤ W.heap.size) (hl : (n + m) * bytes ≤ 140737488355328)
    (h : ∀ v1 w1, w1.ownsRow base e size v1 (n + m) (xs ++ news) → Below base w0 w1 → W.grownBy w1 v.ownBlock → (v1.ownBlock = v.ownBlock ∨ v1.ownBlock = some W.heap.size) → wpList P ops Q rest (a.put o.dst v1) w1) :
    wpList P ops Q (o :: rest) a W := by
  obtain ⟨i0, hi, hzz⟩ := Option.map_eq_some_iff.1 hinfo
  simp only [Prod.mk.injEq] at hzz
  obtain ⟨hz0, hz1, hz2⟩ := hzz
  have hlen : n + m ≤ 140737488355328 := Nat.le_trans (Nat.le_mul_of_pos_right _ hb0) hl
  have hbk : ∀ k, v.ownBlock = some k → base ≤ k := fun k hk => (HO.lt k hk).1
  have hrun : ∃ v1 w1, (Builtin.append_ #[t, t] o.type #[v, .slice A m c]).run P W = .ok v1 w1 ∧ w1.ownsRow base e size v1 (n + m) (xs ++ news) ∧ W.grownBy w1 v.ownBlock ∧ (v1.ownBlock = v.ownBlock ∨ v1.ownBlock = some W.heap.size) := by
    rcases A with _ | ad
    · have h0 : m = 0 := by
        rcases Nat.eq_zero_or_pos m with h0 | h0
        · exact h0
        · obtain ⟨ad, h, _⟩ := hA h0
          cases h
      subst h0
      obtain rfl : news = [] := List.eq_nil_of_length_eq_zero (by simpa using hnl)
      refine ⟨v, W, ?_, by simpa using HO, ⟨rfl, rfl, rfl, Nat.le_refl _, fun _ _ _ => rfl⟩, .inl rfl⟩
      rcases HO.2 with ⟨rfl, hn⟩ | ⟨g, cap, cur, rfl, _, _, hnc, _⟩
      · simp [Builtin.append_, run_underlying ht, sizeOf, typeInfo, hi, Builtin.lenOf, Builtin.firstCells]
      · simp [Builtin.append_, run_underlying ht, sizeOf, typeInfo, hi, Builtin.lenOf, Builtin.firstCells, hnc, storeCells]
    · have hcells : ∀ j u, news[j]? = some u → W.cell? (ad.add j) = some u := by
        intro j u hu
        have hj : 0 < m := by
          rcases Nat.eq_zero_or_pos m with h | h
          · subst h
            have : news = [] := List.eq_nil_of_length_eq_zero (by simpa using hnl)
            subst this
            simp at hu
          · exact h
        obtain ⟨ad', h', hc⟩ := hA hj
        injection h' with h'
        subst h'
        exact hc j u hu
      obtain ⟨v1, w1, hr, h2, h3, _, h5⟩ := run_append_own_at (P := P) W base t o.type e i0 z size bytes ht hi hz0 hz1 hz2 hzs hsz v n xs HO ad m c news hnl hcells h1 (by simp only [maxLen]; omega) hl hbase
      exact ⟨v1, w1, hr, h2, h3, h5⟩
  obtain ⟨v1, w1, hr, hown, hg, hat⟩ := hrun
  refine wpList_plain hgd fun K hK => ?_
  unfold Oper.wp execOp
  simp only [ho, resolve, invoke, builtin, Sem.run_bind, Sem.run_pure, Result.andThen_ok, List.map_toArray, List.map_cons, List.map_nil, hs, hx, hr]
  exact hK _ _ (h v1 w1 hown (HB.grown hg hbase hbk) hg hat)

end
/-- append of bytes to bytes. -/
theorem wpl_app8 {ops : Array Oper} {rest : List Oper} {o : Oper} {a : Act} {Q : Exit → Act → World → Prop} {w0 W : World} (base : Nat) (hgd : o.guard = none) (s x : Operand)
    (ho : o.op = .call { callee := .builtin .append, args := #[s, x], argTypes := #[22, 22] })
    (A1 : Option Addr) (n c1 : Nat) (xs : List UInt8) (A : Option Addr) (m c : Nat) (ys : List UInt8) (hs : a.eval s = .slice A1 n c1) (hx : a.eval x = .slice A m c)
    (HO : Ow W base A1 n c1 xs) (HR : Bs W A m c ys) (HB : Below base w0 W) (hbase : base ≤ W.heap.size) (hl : n + m ≤ 140737488355328)
    (h : ∀ A2 c2 w1, Ow w1 base A2 (n + m) c2 (xs ++ ys) → Below base w0 w1 → W.grownBy w1 (Value.slice A1 n c1).ownBlock → ((Value.slice A2 (n + m) c2).ownBlock = (Value.slice A1 n c1).ownBlock ∨ (Value.slice A2 (n + m) c2).ownBlock = some W.heap.size) → wpList Try.prog ops Q rest (a.put o.dst (.slice A2 (n + m) c2)) w1) :
    wpList Try.prog ops Q (o :: rest) a W := by
  refine wpl_append base hgd s x 22 5 (.int .u8 0) 1 1 ho Try.underlying22 info8 rfl (by omega) (by omega) _ n (u8v xs) A m c (u8v ys) hs hx HO.row (by rw [u8v_length, HR.len]; omega) ?_ (u8v_one ys) HB hbase (by omega) ?_
  · intro hm
    obtain ⟨ad, e, hc⟩ := HR.cells hm
    refine ⟨ad, e, fun j u hu => ?_⟩
    have hj : j < ys.length := by
      rcases Nat.lt_or_ge j ys.length with h | h
      · exact h
      · simp [u8v, List.getElem?_eq_none h] at hu
    rw [u8v_get ys j hj] at hu
    injection hu with hu
    subst hu
    exact hc j (by rw [← HR.len]; exact hj)
  · intro v1 w1 hown hB hg hat
    rw [← u8v_append] at hown
    obtain ⟨A2, c2, rfl, hO⟩ := Ow.of_row hown hl
    exact h A2 c2 w1 hO hB hg hat

/-- The same, its end told in numbers of one's own. -/
theorem wpl_a8 {ops : Array Oper} {rest : List Oper} {o : Oper} {a : Act} {Q : Exit → Act → World → Prop} {w0 W : World} (base : Nat) (hgd : o.guard = none) (s x : Operand)
    (ho : o.op = .call { callee := .builtin .append, args := #[s, x], argTypes := #[22, 22] })
    (A1 : Option Addr) (n c1 : Nat) (xs : List UInt8) (A : Option Addr) (m c : Nat) (ys : List UInt8) (N : Nat) (zs : List UInt8) (hs : a.eval s = .slice A1 n c1) (hx : a.eval x = .slice A m c)
    (HO : Ow W base A1 n c1 xs) (HR : Bs W A m c ys) (HB : Below base w0 W) (hbase : base ≤ W.heap.size) (hN : n + m = N) (hl : N ≤ 140737488355328) (hz : xs ++ ys = zs)
    (h : ∀ A2 c2 w1, Aside0 (Ow w1 base A2 N c2 zs) → Aside0 (Below base w0 w1) → wpList Try.prog ops Q rest (a.put o.dst (.slice A2 N c2)) w1) :
    wpList Try.prog ops Q (o :: rest) a W := by
  subst hN
  subst hz
  exact wpl_app8 base hgd s x ho A1 n c1 xs A m c ys hs hx HO HR HB hbase hl fun A2 c2 w1 hO hB _ _ => h A2 c2 w1 ⟨hO⟩ ⟨hB⟩

/-! string(b) -/
def strB (xs : List UInt8) : ByteArray := ⟨xs.toArray⟩
theorem strB_list (xs : List UInt8) : (strB xs).toList = xs := by rw [ByteArray.toList_eq]; rfl
theorem strB_of (xs : List UInt8) : strOfNums (xs.map fun x => (x.toNat : Int)) = strB xs := by
  unfold strOfNums strB
  congr 2
  rw [List.map_map]
  exact (List.map_congr_left (fun x _ => by simp)).trans (List.map_id _)
theorem conv8 {w : World} {A : Option Addr} {n c : Nat} {xs : List UInt8} (h : Bs w A n c xs) : (convert 22 9 (.slice A n c)).run Try.prog w = .ok (.string (strB xs)) w := by
  have hn := h.len
  rcases A with _ | ad
  · have h0 : n = 0 := by
      rcases Nat.eq_zero_or_pos n with h0 | h0
      · exact h0
      · obtain ⟨ad, h', _⟩ := h.cells h0
        cases h'
    subst h0
    obtain rfl : xs = [] := List.eq_nil_of_length_eq_zero hn
    exact run_convert_bytes_nil w 22 5 Try.underlying22 Try.underlying5 0 c 9 Try.underlying9
  · have hl : (loadCells ad n).run Try.prog w = .ok (u8v xs).toArray w := by
      have := run_loadCells_list (P := Try.prog) w ad (u8v xs) (fun j v hj => by
        have hjl : j < xs.length := by
          rcases Nat.lt_or_ge j xs.length with h' | h'
          · exact h'
          · rw [List.getElem?_eq_none (by rw [u8v_length]; exact h')] at hj
            cases hj
        rw [u8v_get xs j hjl] at hj
        injection hj with hj
        subst hj
        obtain ⟨ad', he', hc⟩ := h.cells (by omega)
        injection he' with he'
        subst he'
        exact hc j (by omega))
      rwa [u8v_length, hn] at this
    have hu : u8v xs = (xs.map fun x => (x.toNat : Int)).map (Value.int .u8) := by simp [u8v]
    rw [hu] at hl
    rw [run_convert_bytes_string w 22 9 5 _ n c Try.underlying22 Try.underlying5 Try.underlying9, run_bytesToString w ad n c _ hl, ← strB_of, foldl_push_bytes]
    simp [strOfNums, ByteArray.empty, ByteArray.emptyWithCapacity]
    rfl

/-! append(v, y): one element of one cell -/
theorem wpl_app1 {P : Program} {ops : Array Oper} {rest : List Oper} {o : Oper} {a : Act} {Q : Exit → Act → World → Prop} {w0 W : World} (base : Nat) (hgd : o.guard = none) (s x : Operand) (t e : TypeId) (z : Value) (bytes : Nat)
    (ho : o.op = .call { callee := .builtin .append, args := #[s, x], argTypes := #[t, t] })
    (ht : P.underlying t = some (.slice e)) (hinfo : (P.info? e).map (fun i => (i.zero, i.size, i.bytes)) = some (some z, 1, bytes)) (hzs : z.cells.size = 1) (hb0 : 0 < bytes)
    (v : Value) (n : Nat) (xs : List Value) (y : Value) (hs : a.eval s = v) (hx : a.eval x = .slice (some ⟨W.heap.size, 0, none⟩) 1 1) (hy : y.oneCell' = true)
    (HO : W.ownsRow base e 1 v n xs) (HB : Below base w0 W) (hbase : base ≤ W.heap.size) (hl : (n + 1) * bytes ≤ 140737488355328)
    (h : ∀ v1 w1, w1.ownsRow base e 1 v1 (n + 1) (xs ++ [y]) → Below base w0 w1 → W.grownBy w1 v.ownBlock → (v1.ownBlock = v.ownBlock ∨ v1.ownBlock = some (W.heap.size + 1)) → wpList P ops Q rest (a.put o.dst v1) w1) :
    wpList P ops Q (o :: rest) a (W.alloc (.cells #[y] e)) := by
  refine wpl_append (w0 := w0) base hgd s x t e z 1 bytes ho ht hinfo hzs (by omega) hb0 v n xs (some ⟨W.heap.size, 0, none⟩) 1 1 [y] hs hx (HO.alloc _) rfl ?_ (by simpa using hy) (HB.alloc hbase _) (by simp; omega) hl ?_
  · intro _
    refine ⟨_, rfl, fun j u hu => ?_⟩
    have hj : j = 0 := by
      rcases Nat.eq_zero_or_pos j with h | h
      · exact h
      · simp [List.getElem?_eq_none (show [y].length ≤ j from h)] at hu
    subst hj
    simp at hu
    subst hu
    rw [add_plain, cell_of_row _ _ _ _ _ _ (heap_alloc_new W _)]
    rfl
  · intro v1 w1 hown hB hg hat
    refine h v1 w1 hown hB ?_ ?_
    · exact ⟨hg.os, hg.tape, hg.output, by have := hg.size; simp at this; omega, fun k hk hne => (hg.block k (by simp; omega) hne).trans (Below.heap_alloc _ _ _ hk)⟩
    · simpa using hat

/-! A slice of bools that the call itself made -/
def blv (l : List Bool) : List Value := l.map Value.bool
theorem blv_length (l : List Bool) : (blv l).length = l.length := by simp [blv]
theorem blv_append (l m : List Bool) : blv (l ++ m) = blv l ++ blv m := by simp [blv]
structure Obl (w : World) (base : Nat) (A : Option Addr) (n c : Nat) (l : List Bool) : Prop where
  row : w.ownsRow base 4 1 (.slice A n c) n (blv l)
  lim : n ≤ 140737488355328
theorem Obl.len {w : World} {base n c : Nat} {A : Option Addr} {l : List Bool} (h : Obl w base A n c l) : l.length = n := by
  have := h.row.1; rw [blv_length] at this; omega
theorem Obl.kept {w w1 : World} {base n c : Nat} {A : Option Addr} {l : List Bool} (h : Obl w base A n c l) (hb : ∀ g, A = some ⟨g, 0, none⟩ → g < w.heap.size → w1.heap[g]? = w.heap[g]?) : Obl w1 base A n c l := by
  refine ⟨⟨h.row.1, ?_⟩, h.lim⟩
  rcases h.row.2 with hn | ⟨g, cap, cur, hv, hg, hh, rest⟩
  · exact .inl hn
  · refine .inr ⟨g, cap, cur, hv, hg, ?_, rest⟩
    injection hv with h1 _ _
    rw [hb g h1 (Array.getElem?_eq_some_iff.1 hh).1]
    exact hh
theorem Obl.below {w w1 : World} {base n c : Nat} {A : Option Addr} {l : List Bool} (h : Obl w base A n c l) (hb : Below w.heap.size w w1) : Obl w1 base A n c l :=
  h.kept fun g _ hg => hb.block g hg
theorem Obl.alloc {w : World} {base n c : Nat} {A : Option Addr} {l : List Bool} (h : Obl w base A n c l) (o : Obj) : Obl (w.alloc o) base A n c l := h.below ((Below.refl _ _).alloc (Nat.le_refl _) o)
theorem Obl.nil (w : World) (base : Nat) : Obl w base none 0 0 [] := ⟨World.ownsRow_nil _ _ _ _, by omega⟩
theorem Obl.cap {w : World} {base n c : Nat} {A : Option Addr} {l : List Bool} (h : Obl w base A n c l) : n ≤ c ∧ c ≤ 9223372036854775807 := by
  rcases h.row.2 with ⟨hv, hn⟩ | ⟨g, cap, cur, hv, hg, hh, h1, h2, _⟩
  · injection hv with h1 h2 h3
    omega
  · injection hv with _ _ h3
    simp only [maxLen] at h2
    omega
/-- Where its cells are, what they hold, and that they may be written. -/
theorem Obl.at_ {w : World} {base n c : Nat} {A : Option Addr} {l : List Bool} (h : Obl w base A n c l) (j : Nat) (hj : j < n) :
    ∃ g, A = some ⟨g, 0, none⟩ ∧ base ≤ g ∧ g < w.heap.size ∧ w.cell? ⟨g, j, none⟩ = some (.bool (l.getD j false)) ∧ w.frozen? ⟨g, j, none⟩ = false := by
  have hl := h.len
  rcases h.row.2 with ⟨hv, hn⟩ | ⟨g, cap, cur, hv, hg, hh, _⟩
  · omega
  · injection hv with h1 _ _
    refine ⟨g, h1, hg, (Array.getElem?_eq_some_iff.1 hh).1, ?_, by simp [World.frozen?, hh]⟩
    have hc := h.row.cells (g := g) (by rw [h1]; rfl) j (.bool (l.getD j false)) (by simp [blv, List.getElem?_eq_getElem (show j < l.length by omega), List.getD_eq_getElem?_getD])
    rwa [add_plain] at hc
theorem Obl.store {w : World} {base g n c : Nat} {l : List Bool} (h : Obl w base (some ⟨g, 0, none⟩) n c l) (j : Nat) (x : Bool) :
    Obl (w.setCell ⟨g, j, none⟩ (.bool x)) base (some ⟨g, 0, none⟩) n c (l.set j x) := by
  have hs := (h.row.stored j (.bool x)).1
  have he : (blv l).set j (.bool x) = blv (l.set j x) := by simp [blv, List.map_set]
  rw [he] at hs
  exact ⟨hs, h.lim⟩
theorem infoB : (Try.prog.info? 4).map (fun i => (i.zero, i.size, i.bytes)) = some (some (.bool false), 1, 1) := by kernel_rfl
theorem wpl_appb {ops : Array Oper} {rest : List Oper} {o : Oper} {a : Act} {Q : Exit → Act → World → Prop} {w0 W : World} (base : Nat) (hgd : o.guard = none) (s x : Operand)
    (ho : o.op = .call { callee := .builtin .append, args := #[s, x], argTypes := #[24, 24] })
    (A1 : Option Addr) (n c1 : Nat) (l : List Bool) (y : Bool) (hs : a.eval s = .slice A1 n c1) (hx : a.eval x = .slice (some ⟨W.heap.size, 0, none⟩) 1 1)
    (HO : Obl W base A1 n c1 l) (HB : Below base w0 W) (hbase : base ≤ W.heap.size) (hl : n + 1 ≤ 140737488355328)
    (h : ∀ A2 c2 w1, Obl w1 base A2 (n + 1) c2 (l ++ [y]) → Below base w0 w1 → wpList Try.prog ops Q rest (a.put o.dst (.slice A2 (n + 1) c2)) w1) :
    wpList Try.prog ops Q (o :: rest) a (W.alloc (.cells #[.bool y] 4)) := by
  refine wpl_app1 (w0 := w0) base hgd s x 24 4 (.bool false) 1 ho Try.underlying24 infoB rfl (by omega) _ n (blv l) (.bool y) hs hx rfl HO.row HB hbase (by omega) ?_
  intro v1 w1 hown hB _ _
  obtain ⟨A2, c2, rfl⟩ := own_form hown
  exact h A2 c2 w1 ⟨by rw [blv_append]; exact hown, hl⟩ hB

end Go.Proofs.Ytcegphnhohpegaa
