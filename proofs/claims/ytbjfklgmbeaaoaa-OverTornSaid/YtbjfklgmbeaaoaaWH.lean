/- A function value that reads pages, and what stands beside it. -/
import Derived.Test.YtbjfklgmbeaaoaaWG
set_option linter.unusedVariables false
set_option linter.unusedSimpArgs false
namespace Go.Proofs.Ytbjfklgmbeaaoaa
open Go.RowKit

/-- A reader: one of the law's two; it changes one old block alone. -/
structure Rdr (w0 : World) (F : Nat) (caps : Array Value) (ar : Int → Int → Array Value) (t : Nat) (r : RP) (Box : Nat → World → Prop) : Prop where
  kind : (F = 43 ∧ ∃ p, caps = #[p] ∧ ar = fun a b => #[.int .i64 a, .int .i64 b, p]) ∨ (F = 50 ∧ ∃ p q, caps = #[p, q] ∧ ar = fun a b => #[.int .i64 a, .int .i64 b, p, q])
  lt : t < w0.heap.size
  call : ∀ (k : Nat) (id many : Int) (W : World), OnlyB t w0 W → Box k W → -9223372036854775808 ≤ id ∧ id ≤ 9223372036854775807 → 0 ≤ many ∧ many ≤ 1000 →
    Calls Try.prog F (ar id many) W fun e W' => ∃ A c, e = .returned (.tuple #[.slice A (r.b id many).length c, .int .i64 (r.e id many)]) ∧ Bs W' A (r.b id many).length c (r.b id many) ∧ (∀ ad, A = some ad → 0 < (r.b id many).length → ad.block ≠ t) ∧ Box (k + 1) W' ∧ OnlyB t W W'
  box : ∀ (k : Nat) (W W1 : World), W1.heap[t]? = W.heap[t]? → Box k W → Box k W1
  bound : ∀ id many, r.e id many = 0 → 0 ≤ id ∧ id ≤ 1000000
/-- A slice's own block is no block of another type. -/
theorem Ow.row_ne {W : World} {base n c N : Nat} {A : Option Addr} {xs : List UInt8} {C : Array Value} {T : TypeId} {fr : Nat × Nat} (h : Ow W base A n c xs) (hr : W.heap[N]? = some (.cells C T fr)) (hT : T ≠ 5) : A ≠ some ⟨N, 0, none⟩ := fun e => by
  rcases h.row.2 with ⟨q, _⟩ | ⟨g, cap, cur, q, _, hg, _⟩
  · rw [e] at q; cases q
  · rw [e] at q
    injection q with q _ _
    injection q with q
    injection q with q
    subst q
    rw [hr] at hg
    injection hg with hg
    injection hg with _ hg _
    exact hT hg
theorem Oc.row_ne {W : World} {base n c N k : Nat} {A : Option Addr} {xs : List Value} {C : Array Value} {T T2 : TypeId} {fr : Nat × Nat} (h : Oc W base T2 k A n c xs) (hr : W.heap[N]? = some (.cells C T fr)) (hT : T ≠ T2) : A ≠ some ⟨N, 0, none⟩ := fun e => by
  rcases h.row.2 with ⟨q, _⟩ | ⟨g, cap, cur, q, _, hg, _⟩
  · rw [e] at q; cases q
  · rw [e] at q
    injection q with q _ _
    injection q with q
    injection q with q
    subst q
    rw [hr] at hg
    injection hg with hg
    injection hg with _ hg _
    exact hT hg
theorem Oc.ne8 {W : World} {base b2 n c m d k : Nat} {A B : Option Addr} {xs : List Value} {T : TypeId} {ys : List UInt8} (h : Oc W base T k A n c xs) (hT : T ≠ 5) (o : Ow W b2 B m d ys) (i : Nat) (e : A = some ⟨i, 0, none⟩) : B ≠ some ⟨i, 0, none⟩ := fun e2 => o.typed hT h i e2 e
theorem Ow.addr8' {w : World} {base n c : Nat} {A : Option Addr} {xs : List UInt8} (h : Ow w base A n c xs) : A = none ∨ ∃ g, A = some ⟨g, 0, none⟩ ∧ base ≤ g := by
  rcases h.row.2 with ⟨q, _⟩ | ⟨g, cap, cur, q, hg, _⟩
  · injection q with q _ _
    exact .inl q
  · injection q with q _ _
    exact .inr ⟨g, q, hg⟩
theorem Ow.base8' {w : World} {base n c : Nat} {A : Option Addr} {xs : List UInt8} (h : Ow w base A n c xs) (k : Nat) (e : A = some ⟨k, 0, none⟩) : base ≤ k := by
  rcases h.addr8' with q | ⟨j, q, hj⟩
  · rw [q] at e; cases e
  · rw [q] at e
    injection e with e
    injection e with e
    omega
/-- What stands while a value is read. -/
structure SC (w : World) (t : Nat) (Box : Nat → World → Prop) (k : Nat) (N : Nat) (ob : Obj) (A1 : Option Addr) (c1 : Nat) (o : List UInt8) (A2 : Option Addr) (c2 : Nat) (l : List Int) (W : World) : Prop where
  only : OnlyB t w W
  bx : Box k W
  row : W.heap[N]? = some ob
  out : Ow W w.heap.size A1 o.length c1 o
  ids : Oc W w.heap.size 3 1 A2 l.length c2 (iv l)
theorem OnlyB.grown {t : Nat} {w W W1 : World} {b : Option Nat} (h : OnlyB t w W) (hg : W.grownBy W1 b) (hb : ∀ i, b = some i → w.heap.size ≤ i) : OnlyB t w W1 :=
  ⟨hg.os.trans h.os, hg.tape.trans h.tape, hg.output.trans h.output, Nat.le_trans h.size hg.size, fun i hi hne => (hg.block i (Nat.lt_of_lt_of_le hi h.size) (fun e => by have := hb i e.symm; omega)).trans (h.block i hi hne)⟩
section
variable {w W W1 : World} {t k N c1 c2 : Nat} {Box : Nat → World → Prop} {ob : Obj} {A1 A2 : Option Addr} {o : List UInt8} {l : List Int}
theorem SC.below (h : SC w t Box k N ob A1 c1 o A2 c2 l W) (ht : t < w.heap.size) (hbx : ∀ (k : Nat) (W W1 : World), W1.heap[t]? = W.heap[t]? → Box k W → Box k W1) (hB : Below W.heap.size W W1) : SC w t Box k N ob A1 c1 o A2 c2 l W1 :=
  ⟨h.only.trans (OnlyB.of_below hB), hbx _ _ _ (hB.block t (Nat.lt_of_lt_of_le ht h.only.size)) h.bx, (hB.block _ (Array.getElem?_eq_some_iff.1 h.row).1).trans h.row, h.out.below hB, h.ids.below hB⟩
theorem SC.read {k1 : Nat} (h : SC w t Box k N ob A1 c1 o A2 c2 l W) (ht : t < w.heap.size) (hN : N ≠ t) (ho : OnlyB t W W1) (hb : Box k1 W1) : SC w t Box k1 N ob A1 c1 o A2 c2 l W1 :=
  ⟨h.only.trans ho, hb, (ho.block _ (Array.getElem?_eq_some_iff.1 h.row).1 hN).trans h.row, h.out.kept fun g e hg => ho.block g hg (by have := h.out.base8' g e; omega), h.ids.only ho fun j e => by have := h.ids.lo j e; omega⟩
theorem SC.app {A3 : Option Addr} {c3 : Nat} {o3 : List UInt8} {C : Array Value} {T : TypeId} {fr : Nat × Nat} (h : SC w t Box k N (.cells C T fr) A1 c1 o A2 c2 l W) (ht : t < w.heap.size) (hbx : ∀ (k : Nat) (W W1 : World), W1.heap[t]? = W.heap[t]? → Box k W → Box k W1) (hT : T ≠ 5)
    (hg : W.grownBy W1 (Value.slice A1 o.length c1).ownBlock) (hO : Ow W1 w.heap.size A3 o3.length c3 o3) : SC w t Box k N (.cells C T fr) A3 c3 o3 A2 c2 l W1 := by
  have hlo : ∀ i, (Value.slice A1 o.length c1).ownBlock = some i → A1 = some ⟨i, 0, none⟩ ∧ w.heap.size ≤ i := fun i e => by
    rcases h.out.addr8' with q | ⟨j, q, hj⟩
    · rw [q] at e; cases e
    · rw [q] at e
      injection e with e
      have e2 : j = i := e
      subst e2
      exact ⟨q, hj⟩
  refine ⟨h.only.grown hg (fun i e => (hlo i e).2), hbx _ _ _ (hg.block t (Nat.lt_of_lt_of_le ht h.only.size) (fun e => by have := (hlo t e.symm).2; omega)) h.bx, (hg.block N (Array.getElem?_eq_some_iff.1 h.row).1 (fun e => h.out.row_ne h.row hT (hlo N e.symm).1)).trans h.row, hO, ?_⟩
  exact h.ids.kept fun j e hj => hg.block j hj (fun e2 => h.ids.ne8 (by decide) h.out j e (hlo j e2.symm).1)
theorem SC.add {A3 : Option Addr} {c3 : Nat} {l3 : List Int} {C : Array Value} {T : TypeId} {fr : Nat × Nat} (h : SC w t Box k N (.cells C T fr) A1 c1 o A2 c2 l W) (ht : t < w.heap.size) (hbx : ∀ (k : Nat) (W W1 : World), W1.heap[t]? = W.heap[t]? → Box k W → Box k W1) (hT : T ≠ 3)
    (hg : Grw A2 W W1) (hO : Oc W1 w.heap.size 3 1 A3 l3.length c3 (iv l3)) : SC w t Box k N (.cells C T fr) A1 c1 o A3 c3 l3 W1 := by
  have hlo := h.ids.lo
  refine ⟨⟨hg.os.trans h.only.os, hg.tape.trans h.only.tape, hg.output.trans h.only.output, Nat.le_trans h.only.size hg.size, fun i hi hne => (hg.block i (Nat.lt_of_lt_of_le hi h.only.size) (fun e => by have := hlo i e; omega)).trans (h.only.block i hi hne)⟩,
    hbx _ _ _ (hg.block t (Nat.lt_of_lt_of_le ht h.only.size) (fun e => by have := hlo t e; omega)) h.bx, (hg.block N (Array.getElem?_eq_some_iff.1 h.row).1 (fun e => h.ids.row_ne h.row hT e)).trans h.row, ?_, hO⟩
  exact h.out.kept fun j e hj => hg.block j hj (fun e2 => h.ids.ne8 (by decide) h.out j e2 e)
end
end Go.Proofs.Ytbjfklgmbeaaoaa
