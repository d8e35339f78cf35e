/- A page's reader in memory: its cursor, its node so far, and what that holds. -/
import Derived.Test.YtbjfklgmbeaaoaaGreatKD
set_option linter.unusedVariables false
set_option linter.unusedSimpArgs false
namespace Go.Proofs.YtbjfklgmbeaaoaaGreat
open Go.RowKit

theorem Oc.lt {w : World} {base k n c : Nat} {T : TypeId} {A : Option Addr} {xs : List Value} (h : Oc w base T k A n c xs) (j : Nat) (e : A = some ⟨j, 0, none⟩) : j < w.heap.size := by
  rcases h.addr with rfl | ⟨g, rfl, _, hg⟩
  · cases e
  · injection e with e
    injection e with e
    omega
/-- Bytes that lie in one of the rows told. -/
def In2 (R : List (Nat × Obj)) (h : SH) : Prop := 0 < h.2.1 → ∃ i o, h.1 = some ⟨i, 0, none⟩ ∧ (i, o) ∈ R
theorem In2.sub {R R1 : List (Nat × Obj)} {h : SH} (k : In2 R h) (hs : ∀ p ∈ R, p ∈ R1) : In2 R1 h := fun h0 => by
  obtain ⟨i, o, e, hm⟩ := k h0
  exact ⟨i, o, e, hs _ hm⟩
theorem In2.bs {R : List (Nat × Obj)} {h : SH} {xs : List UInt8} {W W1 : World} (k : In2 R h) (hb : Bsh W h xs) (hr : ∀ p ∈ R, W1.heap[p.1]? = W.heap[p.1]?) : Bsh W1 h xs := by
  obtain ⟨A, n, c⟩ := h
  refine ⟨Bs.len hb, Bs.le hb, Bs.cap hb, Bs.lim hb, fun h0 => ?_⟩
  obtain ⟨i, o, e, hm⟩ := k h0
  simp only at e
  subst e
  have h1 : Bs W (some ⟨i, 0, none⟩) n c xs := hb
  have h2 : Bs W1 (some ⟨i, 0, none⟩) n c xs := ⟨h1.len, h1.le, h1.cap, h1.lim, fun h0 => by
    obtain ⟨ad, e, hc⟩ := h1.cells h0
    injection e with e
    subst e
    exact ⟨_, rfl, fun j hj => (show W1.cell? _ = W.cell? _ by unfold World.cell?; rw [add_blk0, show (⟨i, 0, none⟩ : Addr).block = i from rfl, hr _ hm]).trans (hc j hj)⟩⟩
  exact h2.cells h0
structure PR (gr rb : Nat) (Ar : Option Addr) (n c : Nat) (xs : List UInt8) (g : Int) (R : List (Nat × Obj)) (h : NH) (is : List IH) (ks : List KH) (v : NV) (W : World) : Prop where
  bs : Bs W Ar n c xs
  its : Its W is v.items
  kds : Kds W ks v.kids
  rows : ∀ p ∈ R, W.heap[p.1]? = some p.2
/-- What of it hangs on no world. -/
structure PF (base gr rb : Nat) (Ar : Option Addr) (n : Nat) (R : List (Nat × Obj)) (h : NH) (is : List IH) (ks : List KH) (v : NV) : Prop where
  lo : base ≤ gr ∧ base ≤ rb ∧ gr ≠ rb
  ar : 0 < n → ∃ i o, Ar = some ⟨i, 0, none⟩ ∧ (i, o) ∈ R
  ni : ∀ k, h.I.1 = some ⟨k, 0, none⟩ → k ≠ gr ∧ k ≠ rb
  nk : ∀ k, h.K.1 = some ⟨k, 0, none⟩ → k ≠ gr ∧ k ≠ rb
  ik : ∀ k j, h.I.1 = some ⟨k, 0, none⟩ → h.K.1 = some ⟨j, 0, none⟩ → k ≠ j
  li : is.length = h.I.2.1
  lk : ks.length = h.K.2.1
  rows : ∀ p ∈ R, p.1 ≠ gr ∧ p.1 ≠ rb ∧ h.I.1 ≠ some ⟨p.1, 0, none⟩ ∧ h.K.1 ≠ some ⟨p.1, 0, none⟩
  inI : ∀ p ∈ is, In2 R p.k ∧ In2 R p.v
  inK : ∀ p ∈ ks, In2 R p.k
  leaf : h.leaf = v.leaf
  rlo : ∀ p ∈ R, base ≤ p.1
def rdO (gr : Nat) (g : Int) (h : NH) : Obj := .cells #[.pointer (some ⟨gr, 0, none⟩), .int .i64 g, .bool h.leaf, .slice h.I.1 h.I.2.1 h.I.2.2, .slice h.K.1 h.K.2.1 h.K.2.2] 59
structure PgR (w : World) (gr rb : Nat) (Ar : Option Addr) (n c : Nat) (xs : List UInt8) (g : Int) (R : List (Nat × Obj)) (h : NH) (is : List IH) (ks : List KH) (v : NV) (a : Nat) (sp : Bool) (W : World) : Prop where
  cur : Cur W gr 89 Ar n c a sp
  row : W.heap[rb]? = some (rdO gr g h)
  bel : Below w.heap.size w W
  oi : Oc W w.heap.size 44 4 h.I.1 h.I.2.1 h.I.2.2 (ihv is)
  ok : Oc W w.heap.size 74 2 h.K.1 h.K.2.1 h.K.2.2 (khv ks)
  pr : PR gr rb Ar n c xs g R h is ks v W
  pf : PF w.heap.size gr rb Ar n R h is ks v
theorem PR.move {gr rb : Nat} {Ar : Option Addr} {n c : Nat} {xs : List UInt8} {g : Int} {R : List (Nat × Obj)} {h : NH} {is : List IH} {ks : List KH} {v : NV} {base : Nat} {W W1 : World} (k : PR gr rb Ar n c xs g R h is ks v W) (f : PF base gr rb Ar n R h is ks v) (hr : ∀ p ∈ R, W1.heap[p.1]? = W.heap[p.1]?) : PR gr rb Ar n c xs g R h is ks v W1 := by
  refine ⟨In2.bs (h := (Ar, n, c)) f.ar k.bs hr, ⟨k.its.len, fun j p hj => ?_⟩, ⟨k.kds.len, fun j p hj => ?_⟩, fun p hp => (hr p hp).trans (k.rows p hp)⟩
  · obtain ⟨q, a, b, c, d, e⟩ := k.its.each j p hj
    have hi := f.inI p (List.mem_of_getElem? hj)
    exact ⟨q, a, hi.1.bs b hr, hi.2.bs c hr, d, e⟩
  · obtain ⟨q, a, b, c⟩ := k.kds.each j p hj
    have hi := f.inK p (List.mem_of_getElem? hj)
    exact ⟨q, a, hi.bs b hr, c⟩
theorem PgR.lt {w : World} {gr rb : Nat} {Ar : Option Addr} {n c : Nat} {xs : List UInt8} {g : Int} {R : List (Nat × Obj)} {h : NH} {is : List IH} {ks : List KH} {v : NV} {a : Nat} {sp : Bool} {W : World} (k : PgR w gr rb Ar n c xs g R h is ks v a sp W) : ∀ p ∈ R, p.1 < W.heap.size := fun p hp => (Array.getElem?_eq_some_iff.1 (k.pr.rows p hp)).1
theorem PgR.step {w : World} {gr rb : Nat} {Ar : Option Addr} {n c : Nat} {xs : List UInt8} {g : Int} {R : List (Nat × Obj)} {h : NH} {is : List IH} {ks : List KH} {v : NV} {a : Nat} {sp : Bool} {W W1 : World} (k : PgR w gr rb Ar n c xs g R h is ks v a sp W) (hB : Below W.heap.size W W1) : PgR w gr rb Ar n c xs g R h is ks v a sp W1 :=
  ⟨k.cur.below hB, (hB.block _ (Array.getElem?_eq_some_iff.1 k.row).1).trans k.row, below_then k.bel k.bel.size hB, k.oi.below hB, k.ok.below hB, k.pr.move k.pf (fun p hp => hB.block _ (k.lt p hp)), k.pf⟩
/-- The cursor has gone on. -/
theorem PgR.go {w : World} {gr rb : Nat} {Ar : Option Addr} {n c : Nat} {xs : List UInt8} {g : Int} {R : List (Nat × Obj)} {h : NH} {is : List IH} {ks : List KH} {v : NV} {a a1 : Nat} {sp sp1 : Bool} {W W1 : World} (k : PgR w gr rb Ar n c xs g R h is ks v a sp W) (ho : OnlyB gr W W1) (hc : Cur W1 gr 89 Ar n c a1 sp1) : PgR w gr rb Ar n c xs g R h is ks v a1 sp1 W1 :=
  ⟨hc, (ho.block _ (Array.getElem?_eq_some_iff.1 k.row).1 (fun e => k.pf.lo.2.2 e.symm)).trans k.row, ho.below k.bel k.pf.lo.1 (Nat.le_refl _), k.oi.only ho (fun q e => (k.pf.ni q e).1), k.ok.only ho (fun q e => (k.pf.nk q e).1), k.pr.move k.pf (fun p hp => ho.block _ (k.lt p hp) (k.pf.rows p hp).1), k.pf⟩
/-- Rows that were made since stand, too. -/
theorem PgR.hold {w : World} {gr rb : Nat} {Ar : Option Addr} {n c : Nat} {xs : List UInt8} {g : Int} {R : List (Nat × Obj)} {h : NH} {is : List IH} {ks : List KH} {v : NV} {a : Nat} {sp : Bool} {W W1 : World} (k : PgR w gr rb Ar n c xs g R h is ks v a sp W1) (hsz : ∀ q, q < W.heap.size → q < W1.heap.size) (i : Nat) (o : Obj) (hi : W.heap.size ≤ i) (ho : W1.heap[i]? = some o) (hg : gr < W.heap.size) (hb : rb < W.heap.size) (hI : ∀ q, h.I.1 = some ⟨q, 0, none⟩ → q < W.heap.size) (hK : ∀ q, h.K.1 = some ⟨q, 0, none⟩ → q < W.heap.size) : PgR w gr rb Ar n c xs g ((i, o) :: R) h is ks v a sp W1 := by
  refine ⟨k.cur, k.row, k.bel, k.oi, k.ok, ⟨k.pr.bs, k.pr.its, k.pr.kds, fun p hp => ?_⟩, ⟨k.pf.lo, fun h0 => ?_, k.pf.ni, k.pf.nk, k.pf.ik, k.pf.li, k.pf.lk, fun p hp => ?_, fun p hp => ?_, fun p hp => (k.pf.inK p hp).sub (fun q hq => List.mem_cons_of_mem _ hq), k.pf.leaf, fun p hp => (by rcases List.mem_cons.1 hp with rfl | hp; (have := k.pf.lo.1; show w.heap.size ≤ i; omega); exact k.pf.rlo p hp)⟩⟩
  · rcases List.mem_cons.1 hp with rfl | hp
    · exact ho
    · exact k.pr.rows p hp
  · obtain ⟨x, y, e, hm⟩ := k.pf.ar h0
    exact ⟨x, y, e, List.mem_cons_of_mem _ hm⟩
  · rcases List.mem_cons.1 hp with rfl | hp
    · exact ⟨by show i ≠ gr; omega, by show i ≠ rb; omega, fun e => by have := hI _ e; omega, fun e => by have := hK _ e; omega⟩
    · exact k.pf.rows p hp
  · exact ⟨(k.pf.inI p hp).1.sub (fun q hq => List.mem_cons_of_mem _ hq), (k.pf.inI p hp).2.sub (fun q hq => List.mem_cons_of_mem _ hq)⟩
/-- What a reader reads: the state is where it is, and whether it is spoiled. -/
abbrev RSt := Nat × Bool
def rgV (n : Nat) (xs : List UInt8) (s : RSt) (m : Int) : Int := getV n s.1 s.2 m xs
def rgS (n : Nat) (xs : List UInt8) (s : RSt) (m : Int) : RSt := (getA n s.1 s.2 m xs, !getOk n s.1 s.2 m xs)
def rbOk (n : Nat) (s : RSt) (m : Int) : Bool := decide (s.2 = false ∧ 0 ≤ m ∧ (s.1 : Int) + m ≤ (n : Int))
def rbV (n : Nat) (xs : List UInt8) (s : RSt) (m : Int) : List UInt8 := if rbOk n s m = true then (xs.drop s.1).take m.toNat else []
def rbS (n : Nat) (s : RSt) (m : Int) : RSt := if rbOk n s m = true then (s.1 + m.toNat, false) else (s.1, true)
def rdK (n : Nat) (xs : List UInt8) (g : Int) (s : RSt) : KV × RSt :=
  let s1 := rgS n xs s 1; let k := rbV n xs s1 (rgV n xs s 1); let s2 := rbS n s1 (rgV n xs s 1)
  (⟨k, rgV n xs s2 (iwI g)⟩, rgS n xs s2 (iwI g))
def rdI (n : Nat) (xs : List UInt8) (g : Int) (s : RSt) : IV × RSt :=
  let s1 := rgS n xs s 1; let s2 := rgS n xs s1 1; let s3 := rgS n xs s2 2
  let k := rbV n xs s3 (rgV n xs s 1); let s4 := rbS n s3 (rgV n xs s 1)
  if rgV n xs s1 1 = 0 then (⟨k, rbV n xs s4 (rgV n xs s2 2), 0, 0⟩, rbS n s4 (rgV n xs s2 2)) else (⟨k, [], rgV n xs s2 2, rgV n xs s4 (iwI g)⟩, rgS n xs s4 (iwI g))
/-- A reader's Get, of such a reader. -/
theorem pget {w : World} {gr rb : Nat} {Ar : Option Addr} {n c : Nat} {xs : List UInt8} {g : Int} {R : List (Nat × Obj)} {h : NH} {is : List IH} {ks : List KH} {v : NV} {s : RSt} {W : World} (k : PgR w gr rb Ar n c xs g R h is ks v s.1 s.2 W) (m : Int) :
    Calls Tryz.prog 39 #[.pointer (some ⟨gr, 0, none⟩), .int .i64 m] W fun e w' => e = .returned (.int .i64 (rgV n xs s m)) ∧ PgR w gr rb Ar n c xs g R h is ks v (rgS n xs s m).1 (rgS n xs s m).2 w' ∧ OnlyB gr W w' := by
  refine (get_any gr Ar n c s.1 s.2 xs m W k.cur k.pr.bs (fun ad e h0 => ?_)).mono ?_
  · obtain ⟨i, o, e2, hm⟩ := k.pf.ar h0
    rw [e2] at e
    injection e with e
    subst e
    exact (k.pf.rows _ hm).1
  · rintro e w1 ⟨rfl, ho, hc⟩
    exact ⟨rfl, k.go ho hc, ho⟩
/-- A reader's Bytes, of such a reader: what is told stands beside it. -/
theorem pbytes {w : World} {gr rb : Nat} {Ar : Option Addr} {n c : Nat} {xs : List UInt8} {g : Int} {R : List (Nat × Obj)} {h : NH} {is : List IH} {ks : List KH} {v : NV} {s : RSt} {W : World} (k : PgR w gr rb Ar n c xs g R h is ks v s.1 s.2 W) (m : Int) :
    Calls Tryz.prog 53 #[.pointer (some ⟨gr, 0, none⟩), .int .i64 m] W fun e w' => ∃ A1 n1 c1 R1, e = .returned (.slice A1 n1 c1) ∧ Bs w' A1 n1 c1 (rbV n xs s m) ∧ In2 R1 (A1, n1, c1) ∧ (∀ p ∈ R, p ∈ R1) ∧ (∀ p ∈ R1, p ∈ R ∨ W.heap.size ≤ p.1) ∧ PgR w gr rb Ar n c xs g R1 h is ks v (rbS n s m).1 (rbS n s m).2 w' ∧ OnlyB gr W w' := by
  have hne : ∀ ad, Ar = some ad → 0 < n → ad.block ≠ gr := fun ad e h0 => by
    obtain ⟨i, o, e2, hm⟩ := k.pf.ar h0
    rw [e2] at e
    injection e with e
    subst e
    exact (k.pf.rows _ hm).1
  refine (rbytes_any 0 gr Ar n c s.1 s.2 xs m W k.cur k.pr.bs hne).mono ?_
  rintro e w1 ⟨A1, n1, c1, ys, rfl, hO, ho, hh⟩
  have fin : ∀ (a1 : Nat) (sp1 : Bool), Cur w1 gr 89 Ar n c a1 sp1 → ∃ R1, In2 R1 (A1, n1, c1) ∧ (∀ p ∈ R, p ∈ R1) ∧ (∀ p ∈ R1, p ∈ R ∨ W.heap.size ≤ p.1) ∧ PgR w gr rb Ar n c xs g R1 h is ks v a1 sp1 w1 := by
    intro a1 sp1 hc
    have k1 := k.go ho hc
    rcases Nat.eq_zero_or_pos n1 with h0 | h0
    · exact ⟨R, fun q => absurd q (by simp only; omega), fun p hp => hp, fun p hp => .inl hp, k1⟩
    · obtain ⟨i, e, hi, hi2, _⟩ := hO.head h0
      have hob : w1.heap[i]? = some w1.heap[i] := Array.getElem?_eq_getElem hi2
      refine ⟨(i, w1.heap[i]) :: R, fun _ => ⟨i, _, e, List.mem_cons_self⟩, fun p hp => List.mem_cons_of_mem _ hp, fun p hp => (by rcases List.mem_cons.1 hp with rfl | hp; exact .inr hi; exact .inl hp), k1.hold (W := W) (fun q hq => by have := ho.size; omega) i _ hi hob (Array.getElem?_eq_some_iff.1 k.cur.row).1 (Array.getElem?_eq_some_iff.1 k.row).1 (fun q e => k.oi.lt q e) (fun q e => k.ok.lt q e)⟩
  rcases hh with ⟨hf, hc, rfl⟩ | ⟨hs, h0, ha, hc, rfl⟩
  · have hb : rbOk n s m = false := decide_eq_false (fun q => by
      rcases hf with f | f | f
      · rw [f] at q; cases q.1
      · omega
      · omega)
    obtain ⟨R1, h1, h2, h4, h3⟩ := fin _ _ hc
    refine ⟨A1, n1, c1, R1, rfl, ?_, h1, h2, h4, ?_, ho⟩
    · unfold rbV; rw [hb]; exact hO.bs
    · unfold rbS; rw [hb]; exact h3
  · have hb : rbOk n s m = true := decide_eq_true ⟨hs, h0, by omega⟩
    obtain ⟨R1, h1, h2, h4, h3⟩ := fin _ _ hc
    refine ⟨A1, n1, c1, R1, rfl, ?_, h1, h2, h4, ?_, ho⟩
    · unfold rbV; rw [if_pos hb]; exact hO.bs
    · unfold rbS; rw [if_pos hb]; exact h3
/-- A box that stands beside such a reader, apart from all that it holds. -/
structure PgX (w : World) (gr rb : Nat) (R : List (Nat × Obj)) (h : NH) (MB : Nat) (ob : Obj) (W : World) : Prop where
  row : W.heap[MB]? = some ob
  lo : w.heap.size ≤ MB
  ne : MB ≠ gr ∧ MB ≠ rb ∧ h.I.1 ≠ some ⟨MB, 0, none⟩ ∧ h.K.1 ≠ some ⟨MB, 0, none⟩
  nr : ∀ q ∈ R, q.1 ≠ MB
theorem PgR.box {w : World} {gr rb : Nat} {Ar : Option Addr} {n c : Nat} {xs : List UInt8} {g : Int} {R : List (Nat × Obj)} {h : NH} {is : List IH} {ks : List KH} {v : NV} {a : Nat} {sp : Bool} {W : World} (k : PgR w gr rb Ar n c xs g R h is ks v a sp W) (ob : Obj) : PgX w gr rb R h W.heap.size ob (W.alloc ob) :=
  ⟨heap_alloc_new W ob, k.bel.size, ⟨fun e => by have := (Array.getElem?_eq_some_iff.1 k.cur.row).1; omega, fun e => by have := (Array.getElem?_eq_some_iff.1 k.row).1; omega, fun e => by have := k.oi.lt _ e; omega, fun e => by have := k.ok.lt _ e; omega⟩, fun q hq e => by have := k.lt q hq; omega⟩
theorem PgX.step {w : World} {gr rb : Nat} {R : List (Nat × Obj)} {h : NH} {MB : Nat} {ob : Obj} {W W1 : World} (x : PgX w gr rb R h MB ob W) (hB : Below W.heap.size W W1) : PgX w gr rb R h MB ob W1 := ⟨(hB.block _ (Array.getElem?_eq_some_iff.1 x.row).1).trans x.row, x.lo, x.ne, x.nr⟩
theorem PgX.go {w : World} {gr rb : Nat} {R R1 : List (Nat × Obj)} {h : NH} {MB : Nat} {ob : Obj} {W W1 : World} (x : PgX w gr rb R h MB ob W) (ho : OnlyB gr W W1) (hn : ∀ p ∈ R1, p ∈ R ∨ W.heap.size ≤ p.1) : PgX w gr rb R1 h MB ob W1 :=
  ⟨(ho.block _ (Array.getElem?_eq_some_iff.1 x.row).1 x.ne.1).trans x.row, x.lo, x.ne, fun q hq => by
    have := (Array.getElem?_eq_some_iff.1 x.row).1
    rcases hn q hq with z | z
    · exact x.nr q z
    · omega⟩
/-- The box is written. -/
theorem PgR.boxed {w : World} {gr rb : Nat} {Ar : Option Addr} {n c : Nat} {xs : List UInt8} {g : Int} {R : List (Nat × Obj)} {h : NH} {is : List IH} {ks : List KH} {v : NV} {a : Nat} {sp : Bool} {W W1 : World} {MB : Nat} {ob ob1 : Obj} (k : PgR w gr rb Ar n c xs g R h is ks v a sp W) (x : PgX w gr rb R h MB ob W) (ho : OnlyB MB W W1) (hr : W1.heap[MB]? = some ob1) : PgR w gr rb Ar n c xs g R h is ks v a sp W1 ∧ PgX w gr rb R h MB ob1 W1 :=
  ⟨⟨⟨(ho.block _ (Array.getElem?_eq_some_iff.1 k.cur.row).1 (fun e => x.ne.1 e.symm)).trans k.cur.row, k.cur.le, k.cur.lim, k.cur.nc⟩, (ho.block _ (Array.getElem?_eq_some_iff.1 k.row).1 (fun e => x.ne.2.1 e.symm)).trans k.row, ho.below k.bel x.lo (Nat.le_refl _), k.oi.only ho (fun q e z => x.ne.2.2.1 (by rw [e, z])), k.ok.only ho (fun q e z => x.ne.2.2.2 (by rw [e, z])), k.pr.move k.pf (fun p hp => ho.block _ (k.lt p hp) (x.nr p hp)), k.pf⟩, ⟨hr, x.lo, x.ne, x.nr⟩⟩
/-- A kid more. -/
theorem PgR.addKid {w : World} {gr rb : Nat} {Ar : Option Addr} {n c : Nat} {xs : List UInt8} {g : Int} {R : List (Nat × Obj)} {h : NH} {is : List IH} {ks : List KH} {v : NV} {a : Nat} {sp : Bool} {W w1 : World} {A2 : Option Addr} {c2 : Nat} {p : KH} {q : KV} (k : PgR w gr rb Ar n c xs g R h is ks v a sp W) (hO : Oc w1 w.heap.size 74 2 A2 (h.K.2.1 + 1) c2 (khv ks ++ kh2 p)) (hG : Grw h.K.1 W w1) (hA : A2 = h.K.1 ∨ A2 = some ⟨W.heap.size, 0, none⟩) (hb : Bsh W p.k q.k) (hi : In2 R p.k) (hr : p.r = q.r) :
    PgR w gr rb Ar n c xs g R ⟨h.leaf, h.I, (A2, h.K.2.1 + 1, c2)⟩ is (ks ++ [p]) ⟨v.leaf, v.items, v.kids ++ [q]⟩ a sp (w1.setCell ⟨rb, 4, none⟩ (.slice A2 (h.K.2.1 + 1) c2)) := by
  have ho := (OnlyB.refl rb w1).set 4 (.slice A2 (h.K.2.1 + 1) c2)
  have hgr := (Array.getElem?_eq_some_iff.1 k.cur.row).1
  have hrb := (Array.getElem?_eq_some_iff.1 k.row).1
  have kgr : ∀ j, h.K.1 = some ⟨j, 0, none⟩ → j ≠ gr ∧ j ≠ rb := k.pf.nk
  have n2 : ∀ i, i < W.heap.size → h.K.1 ≠ some ⟨i, 0, none⟩ → A2 ≠ some ⟨i, 0, none⟩ := fun i hi hne e => by
    rcases hA with rfl | rfl
    · exact hne e
    · injection e with e; injection e with e; omega
  have hgrow : w1.heap[rb]? = some (rdO gr g h) := (hG.block _ hrb (fun e => (kgr _ e).2 rfl)).trans k.row
  have hR : ∀ p ∈ R, (w1.setCell ⟨rb, 4, none⟩ (.slice A2 (h.K.2.1 + 1) c2)).heap[p.1]? = W.heap[p.1]? := fun p hp =>
    (ho.block _ (Nat.lt_of_lt_of_le (k.lt p hp) hG.size) (k.pf.rows p hp).2.1).trans (hG.block _ (k.lt p hp) (k.pf.rows p hp).2.2.2)
  have hbel : Below w.heap.size w w1 := ⟨hG.os.trans k.bel.os, hG.tape.trans k.bel.tape, hG.output.trans k.bel.output, Nat.le_trans k.bel.size hG.size, fun i hi => (hG.block i (Nat.lt_of_lt_of_le hi k.bel.size) (fun e => by have := k.ok.lo _ e; omega)).trans (k.bel.block i hi)⟩
  have hpr := k.pr.move k.pf hR
  have hp9 : ∀ z ∈ ks ++ [p], In2 R z.k := fun z hz => by
    rcases List.mem_append.1 hz with hz | hz
    · exact k.pf.inK z hz
    · obtain rfl := List.mem_singleton.1 hz
      exact hi
  refine ⟨⟨(ho.block _ (Nat.lt_of_lt_of_le hgr hG.size) k.pf.lo.2.2).trans ((hG.block _ hgr (fun e => (kgr _ e).1 rfl)).trans k.cur.row), k.cur.le, k.cur.lim, k.cur.nc⟩, ?_, ho.below hbel k.pf.lo.2.1 (Nat.le_refl _), ?_, ?_, ⟨hpr.bs, hpr.its, ⟨by rw [List.length_append, List.length_append, hpr.kds.len]; rfl, fun j z hj => ?_⟩, hpr.rows⟩, ⟨k.pf.lo, k.pf.ar, k.pf.ni, ?_, ?_, k.pf.li, by rw [List.length_append, k.pf.lk]; rfl, fun z hz => ?_, k.pf.inI, hp9, k.pf.leaf, k.pf.rlo⟩⟩
  · exact heap_setCell_same w1 rb 4 _ _ _ hgrow
  · exact (k.oi.kept (fun i e hi => hG.block i hi (fun e2 => k.pf.ik i i e e2 rfl))).only ho (fun q e => (k.pf.ni q e).2)
  · rw [khv_app]
    exact Oc.only (by simpa [khv] using hO) ho (fun q e => by
      rcases hA with rfl | rfl
      · exact (kgr q e).2
      · injection e with e; injection e with e; omega)
  · rcases Nat.lt_or_ge j ks.length with hl | hl
    · rw [List.getElem?_append_left hl] at hj
      obtain ⟨u, hu, b⟩ := hpr.kds.each j z hj
      exact ⟨u, by rw [List.getElem?_append_left (by rw [← k.pr.kds.len]; exact hl)]; exact hu, b⟩
    · rw [List.getElem?_append_right hl] at hj
      have hz : j - ks.length = 0 := by
        rcases Nat.eq_zero_or_pos (j - ks.length) with h0 | h0
        · exact h0
        · rw [List.getElem?_eq_none (by simp; omega)] at hj; cases hj
      rw [hz] at hj
      injection hj with hj
      subst hj
      refine ⟨q, by rw [List.getElem?_append_right (by rw [← k.pr.kds.len]; exact hl), ← k.pr.kds.len, hz]; rfl, hi.bs hb hR, hr⟩
  · intro j e
    rcases hA with rfl | rfl
    · exact kgr j e
    · simp only at e; injection e with e; injection e with e; omega
  · intro i j e1 e2
    simp only at e1 e2
    rcases hA with rfl | rfl
    · exact k.pf.ik i j e1 e2
    · have := k.oi.lt i e1
      injection e2 with e2; injection e2 with e2; omega
  · have hz1 := k.pf.rows z hz
    exact ⟨hz1.1, hz1.2.1, hz1.2.2.1, n2 _ (k.lt z hz) hz1.2.2.2⟩
end Go.Proofs.YtbjfklgmbeaaoaaGreat
