/- The walk of page's Decode. -/
import Derived.Test.YtbjfklgmbeaaoaaGreatKF
import Derived.Deep.CutBlock
set_option linter.unusedVariables false
set_option linter.unusedSimpArgs false
namespace Go.Proofs.YtbjfklgmbeaaoaaGreat
open Go.RowKit

/-- One item, or kid, is read, unless the reader is spoiled. -/
def dstep (n : Nat) (xs : List UInt8) (g : Int) (lf : Bool) (t : NV × RSt) : NV × RSt :=
  if t.2.2 = true then t else if lf = true then (⟨t.1.leaf, t.1.items ++ [(rdI n xs g t.2).1], t.1.kids⟩, (rdI n xs g t.2).2) else (⟨t.1.leaf, t.1.items, t.1.kids ++ [(rdK n xs g t.2).1]⟩, (rdK n xs g t.2).2)
def dlo (n : Nat) (xs : List UInt8) (g : Int) (lf : Bool) : Nat → NV × RSt
  | 0 => (⟨lf, [], []⟩, (0, false))
  | k + 1 => dstep n xs g lf (dlo n xs g lf k)
def dN (xs : List UInt8) : NV × RSt := dlo (bodyL xs).length (bodyL xs) (hG xs) (hK xs == 76) (hC xs).toNat
def decE (xs : List UInt8) : Int :=
  if xs.length ≠ 256 then 72 else if hE xs ≠ 0 then hE xs else if ¬ (hK xs = 76 ∨ hK xs = 66) then 70 else if 1 < hG xs ∧ ¬ sealB xs 4 = xs then 71 else
  if (dN xs).2.2 = true ∨ pgE (hG xs) (dN xs).1 ≠ 0 ∨ ¬ pgB (hG xs) (dN xs).1 = xs then 72 else 0
def decG (xs : List UInt8) : Int := if decE xs = 0 then hG xs else 0
def decV (xs : List UInt8) : NV := if decE xs = 0 then (dN xs).1 else ⟨false, [], []⟩
theorem dl_stuck {n : Nat} {xs : List UInt8} {g : Int} {lf : Bool} {k : Nat} (h : (dlo n xs g lf k).2.2 = true) : ∀ m, dlo n xs g lf (k + m) = dlo n xs g lf k
  | 0 => rfl
  | m + 1 => by
    show dstep n xs g lf (dlo n xs g lf (k + m)) = _
    rw [dl_stuck h m]
    unfold dstep
    rw [if_pos h]
theorem getA_le {n a : Nat} {sp : Bool} {m : Int} {xs : List UInt8} (h : a ≤ n) : a ≤ getA n a sp m xs ∧ getA n a sp m xs ≤ n := by
  unfold getA
  split
  · rename_i q
    have := of_decide_eq_true q
    omega
  · omega
theorem rgS_le {n : Nat} {xs : List UInt8} {s : RSt} {m : Int} (h : s.1 ≤ n) : s.1 ≤ (rgS n xs s m).1 ∧ (rgS n xs s m).1 ≤ n ∧ ((rgS n xs s m).2 = false → s.2 = false ∧ s.1 + m.toNat ≤ (rgS n xs s m).1) := by
  refine ⟨(getA_le h).1, (getA_le h).2, fun q => ?_⟩
  have hok : getOk n s.1 s.2 m xs = true := by
    have : (!getOk n s.1 s.2 m xs) = false := q
    simpa using this
  refine ⟨(of_decide_eq_true hok).1, ?_⟩
  show _ ≤ getA n s.1 s.2 m xs
  unfold getA
  rw [if_pos hok]
  exact Nat.le_refl _
theorem rbS_le {n : Nat} {s : RSt} {m : Int} (h : s.1 ≤ n) : s.1 ≤ (rbS n s m).1 ∧ (rbS n s m).1 ≤ n ∧ ((rbS n s m).2 = false → s.2 = false) := by
  unfold rbS
  split
  · rename_i q
    have := of_decide_eq_true q
    exact ⟨by simp only; omega, by simp only; omega, fun _ => this.1⟩
  · exact ⟨Nat.le_refl _, h, fun q => by cases q⟩
theorem rdK_le {n : Nat} {xs : List UInt8} {g : Int} {s : RSt} (h : s.1 ≤ n) : (rdK n xs g s).2.1 ≤ n ∧ ((rdK n xs g s).2.2 = false → s.1 + 1 ≤ (rdK n xs g s).2.1) := by
  have h1 := rgS_le (xs := xs) (m := 1) h
  have h2 := rbS_le (n := n) (m := rgV n xs s 1) h1.2.1
  have h3 := rgS_le (xs := xs) (m := iwI g) h2.2.1
  refine ⟨h3.2.1, fun q => ?_⟩
  have q3 := (h3.2.2 q).1
  have q1 := h1.2.2 (h2.2.2 q3)
  have : (rdK n xs g s).2.1 = (rgS n xs (rbS n (rgS n xs s 1) (rgV n xs s 1)) (iwI g)).1 := rfl
  have e1 : (1 : Int).toNat = 1 := rfl
  omega
theorem rdI_le {n : Nat} {xs : List UInt8} {g : Int} {s : RSt} (h : s.1 ≤ n) : (rdI n xs g s).2.1 ≤ n ∧ ((rdI n xs g s).2.2 = false → s.1 + 1 ≤ (rdI n xs g s).2.1) := by
  have h1 := rgS_le (xs := xs) (m := 1) h
  have h2 := rgS_le (xs := xs) (m := 1) h1.2.1
  have h3 := rgS_le (xs := xs) (m := 2) h2.2.1
  have h4 := rbS_le (n := n) (m := rgV n xs s 1) h3.2.1
  have e1 : (1 : Int).toNat = 1 := rfl
  unfold rdI
  simp only
  split
  · have h5 := rbS_le (n := n) (m := rgV n xs (rgS n xs (rgS n xs s 1) 1) 2) h4.2.1
    refine ⟨h5.2.1, fun q => ?_⟩
    have q4 := h4.2.2 (h5.2.2 q)
    have q1 := h1.2.2 (h2.2.2 (h3.2.2 q4).1).1
    simp only
    omega
  · have h5 := rgS_le (xs := xs) (m := iwI g) h4.2.1
    refine ⟨h5.2.1, fun q => ?_⟩
    have q4 := h4.2.2 (h5.2.2 q).1
    have q1 := h1.2.2 (h2.2.2 (h3.2.2 q4).1).1
    simp only
    omega
theorem dl_bnd {n : Nat} {xs : List UInt8} {g : Int} {lf : Bool} : ∀ k, (dlo n xs g lf k).2.1 ≤ n ∧ (dlo n xs g lf k).1.items.length + (dlo n xs g lf k).1.kids.length ≤ n + 1 ∧ ((dlo n xs g lf k).2.2 = false → (dlo n xs g lf k).1.items.length + (dlo n xs g lf k).1.kids.length ≤ (dlo n xs g lf k).2.1)
  | 0 => ⟨Nat.zero_le _, by simp [dlo], fun _ => by simp [dlo]⟩
  | k + 1 => by
    obtain ⟨h1, h2, h3⟩ := dl_bnd (n := n) (xs := xs) (g := g) (lf := lf) k
    show (dstep n xs g lf (dlo n xs g lf k)).2.1 ≤ n ∧ _ ≤ n + 1 ∧ ((dstep n xs g lf (dlo n xs g lf k)).2.2 = false → (dstep n xs g lf (dlo n xs g lf k)).1.items.length + (dstep n xs g lf (dlo n xs g lf k)).1.kids.length ≤ _)
    rw [show dlo n xs g lf (k + 1) = dstep n xs g lf (dlo n xs g lf k) from rfl]
    unfold dstep
    cases hs : (dlo n xs g lf k).2.2 with
    | true =>
      simp only [if_true]
      exact ⟨h1, h2, fun q => by rw [hs] at q; cases q⟩
    | false =>
      have h3 := h3 hs
      simp only [Bool.false_eq_true, if_false]
      cases lf with
      | true =>
        have h4 := rdI_le (xs := xs) (g := g) h1
        simp only [if_true, List.length_append, List.length_cons, List.length_nil]
        exact ⟨h4.1, by omega, fun q => by have := h4.2 q; omega⟩
      | false =>
        have h4 := rdK_le (xs := xs) (g := g) h1
        simp only [Bool.false_eq_true, if_false, List.length_append, List.length_cons, List.length_nil]
        exact ⟨h4.1, by omega, fun q => by have := h4.2 q; omega⟩
theorem nload {W : World} {g : Nat} {a b c : Value} (h : W.heap[g]? = some (.cells #[a, b, c] 28)) : (loadVar 28 ⟨g, 0, none⟩).run Tryz.prog W = .ok (.agg #[a, b, c]) W :=
  run_loadVar_row W g 28 28 _ (0, 0) _ h Tryz.underlying28 rfl (by kernel_rfl)
theorem nrow3_set {W : World} {g : Nat} {T : TypeId} {x y z : Value} (a b c : Value) (h : W.heap[g]? = some (.cells #[x, y, z] T)) :
    (((W.setCell ⟨g, 0, none⟩ a).setCell ⟨g, 1, none⟩ b).setCell ⟨g, 2, none⟩ c).heap[g]? = some (.cells #[a, b, c] T) :=
  heap_setCell_same _ g 2 _ _ c (heap_setCell_same _ g 1 _ _ b (heap_setCell_same W g 0 _ _ a h))
theorem nonly_set3 {W : World} {g : Nat} (a b c : Value) : OnlyB g W (((W.setCell ⟨g, 0, none⟩ a).setCell ⟨g, 1, none⟩ b).setCell ⟨g, 2, none⟩ c) :=
  (((OnlyB.refl g W).set 0 a).set 1 b).set 2 c
/-- The boxes of Decode: its result, the head; and the bytes. -/
structure DcH (w : World) (N M : Nat) (A : Option Addr) (n c : Nat) (xs : List UInt8) (oh : Obj) (W : World) : Prop where
  rn : W.heap[N]? = some (.cells #[.bool false, .slice none 0 0, .slice none 0 0] 28)
  rm : W.heap[M]? = some oh
  bs : Bs W A n c xs
  bel : Below w.heap.size w W
  lo : w.heap.size ≤ N
theorem DcH.step {w : World} {N M : Nat} {A : Option Addr} {n c : Nat} {xs : List UInt8} {oh : Obj} {W W1 : World} (h : DcH w N M A n c xs oh W) (hB : Below W.heap.size W W1) : DcH w N M A n c xs oh W1 :=
  ⟨(hB.block _ (Array.getElem?_eq_some_iff.1 h.rn).1).trans h.rn, (hB.block _ (Array.getElem?_eq_some_iff.1 h.rm).1).trans h.rm, h.bs.below hB, below_then h.bel h.bel.size hB, h.lo⟩
theorem DcH.s01 {w : World} {N M : Nat} {A : Option Addr} {n c : Nat} {xs ys : List UInt8} {W : World} (h : DcH w N M A n c ys (.cells #[.int .i64 (hK xs), .int .i64 (hG xs), .int .i64 (hC xs), .int .i64 (hNx xs)] 47) W) : W.cell? ⟨M, 0, none⟩ = some (.int .i64 (hK xs)) ∧ W.cell? ⟨M, 1, none⟩ = some (.int .i64 (hG xs)) := ⟨(item_cells2 h.rm).1, (item_cells2 h.rm).2.1⟩
theorem nd_nil (W : World) : Nd W ⟨false, (none, 0, 0), (none, 0, 0)⟩ [] [] ⟨false, [], []⟩ :=
  ⟨rfl, (Oc.nil W 0 44 4).rc, (Oc.nil W 0 74 2).rc, rfl, rfl, ⟨rfl, fun j p h => by simp at h⟩, ⟨rfl, fun j p h => by simp at h⟩, Nat.zero_le _, Nat.zero_le _⟩
theorem dec_no {w W : World} {xs : List UInt8} {e : Int} (h : decE xs = e) (he : e ≠ 0) (hB : Below w.heap.size w W) : ∃ h is ks, Ending.returned (.tuple #[.int .i64 0, .agg #[.bool false, .slice none 0 0, .slice none 0 0], .int .i64 e]) = .returned (.tuple #[.int .i64 (decG xs), .agg (nhv h), .int .i64 (decE xs)]) ∧ Nd W h is ks (decV xs) ∧ Below w.heap.size w W := by
  subst h
  unfold decG decV
  rw [if_neg he, if_neg he]
  exact ⟨_, [], [], rfl, nd_nil W, hB⟩
theorem PgR.new {w w1 w2 : World} {gr n c : Nat} {Ar : Option Addr} {ys : List UInt8} {g : Int} {lf : Bool} (hB : Below w.heap.size w w1) (hg : w1.heap.size ≤ gr) (hne : ∀ ad, Ar = some ad → 0 < n → ad.block ≠ gr) (hc : Cur w2 gr 89 Ar n c 0 false) (hO : Ow w2 w1.heap.size Ar n c ys) (hB2 : Below w1.heap.size w1 w2) :
    ∃ R, PgR w gr w2.heap.size Ar n c ys g R ⟨lf, (none, 0, 0), (none, 0, 0)⟩ [] [] ⟨lf, [], []⟩ 0 false (w2.alloc (rdO gr g ⟨lf, (none, 0, 0), (none, 0, 0)⟩)) := by
  have hgl := (Array.getElem?_eq_some_iff.1 hc.row).1
  have hs := hB.size
  have hB3 := (Below.refl _ w2).alloc (Nat.le_refl _) (rdO gr g ⟨lf, (none, 0, 0), (none, 0, 0)⟩)
  have hb := hO.bs.below hB3
  have mk : ∀ R : List (Nat × Obj), (0 < n → ∃ i o, Ar = some ⟨i, 0, none⟩ ∧ (i, o) ∈ R) → (∀ p ∈ R, w2.heap[p.1]? = some p.2 ∧ p.1 ≠ gr) → (∀ p ∈ R, w.heap.size ≤ p.1) → PgR w gr w2.heap.size Ar n c ys g R ⟨lf, (none, 0, 0), (none, 0, 0)⟩ [] [] ⟨lf, [], []⟩ 0 false (w2.alloc (rdO gr g ⟨lf, (none, 0, 0), (none, 0, 0)⟩)) := fun R h1 h2 h3 =>
    ⟨hc.below hB3, heap_alloc_new w2 _, below_then (below_then hB hB.size hB2) (by have := hB2.size; omega) hB3, Oc.nil _ _ _ _, Oc.nil _ _ _ _, ⟨hb, ⟨rfl, fun j p h => by simp at h⟩, ⟨rfl, fun j p h => by simp at h⟩, fun p hp => (hB3.block _ (Array.getElem?_eq_some_iff.1 (h2 p hp).1).1).trans (h2 p hp).1⟩, ⟨⟨by omega, by have := hB2.size; omega, by omega⟩, h1, fun k e => (by cases e), fun k e => (by cases e), fun k j e => (by cases e), rfl, rfl, fun p hp => ⟨(h2 p hp).2, by have := (Array.getElem?_eq_some_iff.1 (h2 p hp).1).1; omega, by simp, by simp⟩, fun p hp => (by cases hp), fun p hp => (by cases hp), rfl, h3⟩⟩
  rcases Nat.eq_zero_or_pos n with h0 | h0
  · exact ⟨[], mk [] (fun q => absurd q (by omega)) (fun p hp => by cases hp) (fun p hp => by cases hp)⟩
  · obtain ⟨i, e, hi, hi2, _⟩ := hO.head h0
    refine ⟨[(i, w2.heap[i])], mk _ (fun _ => ⟨i, _, e, List.mem_cons_self⟩) (fun p hp => ?_) (fun p hp => ?_)⟩
    · obtain rfl := List.mem_singleton.1 hp
      exact ⟨Array.getElem?_eq_getElem hi2, hne _ e h0⟩
    · obtain rfl := List.mem_singleton.1 hp
      show w.heap.size ≤ i
      omega
theorem PgR.nd {w : World} {gr rb : Nat} {Ar : Option Addr} {n c : Nat} {xs : List UInt8} {g : Int} {R : List (Nat × Obj)} {h : NH} {is : List IH} {ks : List KH} {v : NV} {a : Nat} {sp : Bool} {W : World} (k : PgR w gr rb Ar n c xs g R h is ks v a sp W) (hl : v.items.length ≤ 1000 ∧ v.kids.length ≤ 1000) : Nd W h is ks v :=
  ⟨k.pf.leaf, k.oi.rc, k.ok.rc, k.pf.li, k.pf.lk, k.pr.its, k.pr.kds, by rw [← k.pf.li, k.pr.its.len]; exact hl.1, by rw [← k.pf.lk, k.pr.kds.len]; exact hl.2⟩
theorem PgR.lens {w : World} {gr rb : Nat} {Ar : Option Addr} {n c : Nat} {xs : List UInt8} {g : Int} {R : List (Nat × Obj)} {h : NH} {is : List IH} {ks : List KH} {v : NV} {a : Nat} {sp : Bool} {W : World} (k : PgR w gr rb Ar n c xs g R h is ks v a sp W) : h.I.2.1 = v.items.length ∧ h.K.2.1 = v.kids.length :=
  ⟨by rw [← k.pf.li, k.pr.its.len], by rw [← k.pf.lk, k.pr.kds.len]⟩
theorem rd_cell2 {X : World} {rb gr : Nat} {g : Int} {h : NH} (q : X.heap[rb]? = some (rdO gr g h)) : X.cell? ⟨rb, 2, none⟩ = some (.bool h.leaf) := by
  unfold rdO at q
  rw [cell_of_row _ _ _ _ _ _ q]
  rfl
theorem PgR.pass {w : World} {gr rb N : Nat} {Ar : Option Addr} {n c : Nat} {xs : List UInt8} {g : Int} {R : List (Nat × Obj)} {h : NH} {is : List IH} {ks : List KH} {v : NV} {a : Nat} {sp : Bool} {W W1 : World} (k : PgR w gr rb Ar n c xs g R h is ks v a sp W) (ho : OnlyB N W W1) (hN : N < w.heap.size) : PR gr rb Ar n c xs g R h is ks v W1 ∧ Oc W1 w.heap.size 44 4 h.I.1 h.I.2.1 h.I.2.2 (ihv is) ∧ Oc W1 w.heap.size 74 2 h.K.1 h.K.2.1 h.K.2.2 (khv ks) :=
  ⟨k.pr.move k.pf (fun p hp => ho.block _ (k.lt p hp) (by have := k.pf.rlo p hp; omega)), k.oi.only ho (fun q e z => by have := k.oi.lo _ e; omega), k.ok.only ho (fun q e z => by have := k.ok.lo _ e; omega)⟩
set_option maxHeartbeats 16000000 in
set_option maxRecDepth 100000 in
theorem pdecode_any (A : Option Addr) (n c : Nat) (xs : List UInt8) (w : World) (hb : Bs w A n c xs) :
    Calls Tryz.prog 6 #[.slice A n c] w fun e w' => ∃ h is ks, e = .returned (.tuple #[.int .i64 (decG xs), .agg (nhv h), .int .i64 (decE xs)]) ∧ Nd w' h is ks (decV xs) ∧ Below w.heap.size w w' := by
  have cH : ∀ W, Bs W A n c xs → Calls Tryz.prog 13 #[.slice A n c] W fun e w' => e = .returned (.tuple #[.agg (hV xs), .int .i64 (hE xs)]) ∧ Below W.heap.size W w' := fun W hW => headOf_any A n c xs W hW
  have HX := Aside0.mk hb
  have hn : xs.length = n := hb.len
  have hlim := hb.lim
  have HNL := Aside0.mk hn
  clear hb
  by_cases q : hE xs = 0
  case neg =>
    unfold hV at cH
    rw [if_neg q] at cH
    have g1 : (hE xs != 0) = true := bne_iff_ne.2 q
    by_cases q2 : n = 256
    case neg =>
      have g2 : ((n : Int) != 256) = true := bne_iff_ne.2 (by omega)
      have HE := Aside0.mk (show decE xs = 72 from by unfold decE; rw [if_pos (by omega)])
      clear q q2 hn
      go_enter Tryz.func6, Tryz.ntmps6
      go_upto_region 1 with fail
      have hB0 := (Below.refl _ w).alloc (Nat.le_refl _) (.cells #[.bool false, .slice none 0 0, .slice none 0 0] 28)
      have H0 := Aside0.mk (And.intro (heap_alloc_new w (.cells #[.bool false, .slice none 0 0, .slice none 0 0] 28)) (And.intro hB0 (HX.out.below hB0)))
      have H0s := Aside0.mk (show (w.alloc (.cells #[.bool false, .slice none 0 0, .slice none 0 0] 28)).heap.size = w.heap.size + 1 by simp)
      obtain ⟨w0, hw0⟩ : ∃ X, w.alloc (.cells #[.bool false, .slice none 0 0, .slice none 0 0] 28) = X := ⟨_, rfl⟩
      obtain ⟨N, hN⟩ : ∃ X, w.heap.size = X := ⟨_, rfl⟩
      rw [hw0, hN] at H0
      rw [hw0, hN]
      have HN := Aside0.mk hN
      clear hB0 hw0 hN
      go_upto_block 0 with (go_at_call 13; refine (cH w0 H0.out.2.2).mono ?_; rintro e w1 ⟨rfl, hB⟩; (have H1 := Aside0.mk hB); clear hB)
      have hA : DcH w N w1.heap.size A n c xs (.cells #[.int .i64 0, .int .i64 0, .int .i64 0, .int .i64 0] 47) (w1.alloc (.cells #[.int .i64 0, .int .i64 0, .int .i64 0, .int .i64 0] 47)) := by
        have hb1 := (Below.refl _ w1).alloc (Nat.le_refl _) (.cells #[.int .i64 0, .int .i64 0, .int .i64 0, .int .i64 0] 47)
        have hb2 := below_then H1.out H1.out.size hb1
        have hN := HN.out
        exact ⟨(hb2.block _ (Array.getElem?_eq_some_iff.1 H0.out.1).1).trans H0.out.1, heap_alloc_new w1 _, H0.out.2.2.below hb2, below_then (by rw [hN]; exact H0.out.2.1) (by have := H0.out.2.1.size; omega) hb2, by omega⟩
      obtain ⟨M, hM⟩ : ∃ X, w1.heap.size = X := ⟨_, rfl⟩
      obtain ⟨w2, hw2⟩ : ∃ X, w1.alloc (.cells #[.int .i64 0, .int .i64 0, .int .i64 0, .int .i64 0] 47) = X := ⟨_, rfl⟩
      rw [hw2, hM] at hA
      rw [hw2, hM]
      have H2 := Aside0.mk hA
      clear hA hw2 hM
      obtain ⟨y0, y1, y2, y3⟩ := item_cells2 H2.out.rm
      obtain ⟨x0, x1, x2⟩ := nd_cells H2.out.rn
      have yN := fun j => Go.Joins.unfrozen_of_block H2.out.rn j
      have hD := nload (nrow3_set (.bool false) (.slice none 0 0) (.slice none 0 0) H2.out.rn)
      have HBF := Aside0.mk ((nonly_set3 (W := w2) (g := N) (.bool false) (.slice none 0 0) (.slice none 0 0)).below H2.out.bel H2.out.lo (Nat.le_refl _))
      have HDL := Aside0.mk hD
      clear hD
      go_wp2_with fail
      have hD := HDL.out
      refine bodyPost_ret (v := .tuple #[.int .i64 0, .agg #[.bool false, .slice none 0 0, .slice none 0 0], .int .i64 72]) (by simp [results, Tryz.results6, asAddr, hD]) rfl ?_
      exact dec_no HE.out (by decide) HBF.out
    case pos =>
      subst q2
      have g2 : (((256 : Nat) : Int) != 256) = false := by decide
      have g3 : ((256 : Int) != 256) = false := by decide
      have HE := Aside0.mk (show decE xs = hE xs from by unfold decE; rw [if_neg (by omega), if_pos q])
      have HQ := Aside0.mk q
      clear q hn
      go_enter Tryz.func6, Tryz.ntmps6
      go_upto_region 1 with fail
      have hB0 := (Below.refl _ w).alloc (Nat.le_refl _) (.cells #[.bool false, .slice none 0 0, .slice none 0 0] 28)
      have H0 := Aside0.mk (And.intro (heap_alloc_new w (.cells #[.bool false, .slice none 0 0, .slice none 0 0] 28)) (And.intro hB0 (HX.out.below hB0)))
      have H0s := Aside0.mk (show (w.alloc (.cells #[.bool false, .slice none 0 0, .slice none 0 0] 28)).heap.size = w.heap.size + 1 by simp)
      obtain ⟨w0, hw0⟩ : ∃ X, w.alloc (.cells #[.bool false, .slice none 0 0, .slice none 0 0] 28) = X := ⟨_, rfl⟩
      obtain ⟨N, hN⟩ : ∃ X, w.heap.size = X := ⟨_, rfl⟩
      rw [hw0, hN] at H0
      rw [hw0, hN]
      have HN := Aside0.mk hN
      clear hB0 hw0 hN
      go_upto_block 0 with (go_at_call 13; refine (cH w0 H0.out.2.2).mono ?_; rintro e w1 ⟨rfl, hB⟩; (have H1 := Aside0.mk hB); clear hB)
      have hA : DcH w N w1.heap.size A 256 c xs (.cells #[.int .i64 0, .int .i64 0, .int .i64 0, .int .i64 0] 47) (w1.alloc (.cells #[.int .i64 0, .int .i64 0, .int .i64 0, .int .i64 0] 47)) := by
        have hb1 := (Below.refl _ w1).alloc (Nat.le_refl _) (.cells #[.int .i64 0, .int .i64 0, .int .i64 0, .int .i64 0] 47)
        have hb2 := below_then H1.out H1.out.size hb1
        have hN := HN.out
        exact ⟨(hb2.block _ (Array.getElem?_eq_some_iff.1 H0.out.1).1).trans H0.out.1, heap_alloc_new w1 _, H0.out.2.2.below hb2, below_then (by rw [hN]; exact H0.out.2.1) (by have := H0.out.2.1.size; omega) hb2, by omega⟩
      obtain ⟨M, hM⟩ : ∃ X, w1.heap.size = X := ⟨_, rfl⟩
      obtain ⟨w2, hw2⟩ : ∃ X, w1.alloc (.cells #[.int .i64 0, .int .i64 0, .int .i64 0, .int .i64 0] 47) = X := ⟨_, rfl⟩
      rw [hw2, hM] at hA
      rw [hw2, hM]
      have H2 := Aside0.mk hA
      clear hA hw2 hM
      obtain ⟨y0, y1, y2, y3⟩ := item_cells2 H2.out.rm
      obtain ⟨x0, x1, x2⟩ := nd_cells H2.out.rn
      have yN := fun j => Go.Joins.unfrozen_of_block H2.out.rn j
      have hD := nload (nrow3_set (.bool false) (.slice none 0 0) (.slice none 0 0) H2.out.rn)
      have HBF := Aside0.mk ((nonly_set3 (W := w2) (g := N) (.bool false) (.slice none 0 0) (.slice none 0 0)).below H2.out.bel H2.out.lo (Nat.le_refl _))
      have HDL := Aside0.mk hD
      clear hD
      go_wp2_with fail
      have hD := HDL.out
      refine bodyPost_ret (v := .tuple #[.int .i64 0, .agg #[.bool false, .slice none 0 0, .slice none 0 0], .int .i64 (hE xs)]) (by simp [results, Tryz.results6, asAddr, hD]) rfl ?_
      exact dec_no HE.out HQ.out HBF.out
  case pos =>
    unfold hV at cH
    rw [if_pos q] at cH
    have g1 : (hE xs != 0) = false := bne_eq_false_iff_eq.2 q
    by_cases q2 : n = 256
    case neg =>
      have g2 : ((n : Int) != 256) = true := bne_iff_ne.2 (by omega)
      have HE := Aside0.mk (show decE xs = 72 from by unfold decE; rw [if_pos (by omega)])
      clear q q2 hn
      go_enter Tryz.func6, Tryz.ntmps6
      go_upto_region 1 with fail
      have hB0 := (Below.refl _ w).alloc (Nat.le_refl _) (.cells #[.bool false, .slice none 0 0, .slice none 0 0] 28)
      have H0 := Aside0.mk (And.intro (heap_alloc_new w (.cells #[.bool false, .slice none 0 0, .slice none 0 0] 28)) (And.intro hB0 (HX.out.below hB0)))
      have H0s := Aside0.mk (show (w.alloc (.cells #[.bool false, .slice none 0 0, .slice none 0 0] 28)).heap.size = w.heap.size + 1 by simp)
      obtain ⟨w0, hw0⟩ : ∃ X, w.alloc (.cells #[.bool false, .slice none 0 0, .slice none 0 0] 28) = X := ⟨_, rfl⟩
      obtain ⟨N, hN⟩ : ∃ X, w.heap.size = X := ⟨_, rfl⟩
      rw [hw0, hN] at H0
      rw [hw0, hN]
      have HN := Aside0.mk hN
      clear hB0 hw0 hN
      go_upto_block 0 with (go_at_call 13; refine (cH w0 H0.out.2.2).mono ?_; rintro e w1 ⟨rfl, hB⟩; (have H1 := Aside0.mk hB); clear hB)
      have hA : DcH w N w1.heap.size A n c xs (.cells #[.int .i64 (hK xs), .int .i64 (hG xs), .int .i64 (hC xs), .int .i64 (hNx xs)] 47) (w1.alloc (.cells #[.int .i64 (hK xs), .int .i64 (hG xs), .int .i64 (hC xs), .int .i64 (hNx xs)] 47)) := by
        have hb1 := (Below.refl _ w1).alloc (Nat.le_refl _) (.cells #[.int .i64 (hK xs), .int .i64 (hG xs), .int .i64 (hC xs), .int .i64 (hNx xs)] 47)
        have hb2 := below_then H1.out H1.out.size hb1
        have hN := HN.out
        exact ⟨(hb2.block _ (Array.getElem?_eq_some_iff.1 H0.out.1).1).trans H0.out.1, heap_alloc_new w1 _, H0.out.2.2.below hb2, below_then (by rw [hN]; exact H0.out.2.1) (by have := H0.out.2.1.size; omega) hb2, by omega⟩
      obtain ⟨M, hM⟩ : ∃ X, w1.heap.size = X := ⟨_, rfl⟩
      obtain ⟨w2, hw2⟩ : ∃ X, w1.alloc (.cells #[.int .i64 (hK xs), .int .i64 (hG xs), .int .i64 (hC xs), .int .i64 (hNx xs)] 47) = X := ⟨_, rfl⟩
      rw [hw2, hM] at hA
      rw [hw2, hM]
      have H2 := Aside0.mk hA
      clear hA hw2 hM
      obtain ⟨y0, y1, y2, y3⟩ := item_cells2 H2.out.rm
      obtain ⟨x0, x1, x2⟩ := nd_cells H2.out.rn
      have yN := fun j => Go.Joins.unfrozen_of_block H2.out.rn j
      have hD := nload (nrow3_set (.bool false) (.slice none 0 0) (.slice none 0 0) H2.out.rn)
      have HBF := Aside0.mk ((nonly_set3 (W := w2) (g := N) (.bool false) (.slice none 0 0) (.slice none 0 0)).below H2.out.bel H2.out.lo (Nat.le_refl _))
      have HDL := Aside0.mk hD
      clear hD
      go_wp2_with fail
      have hD := HDL.out
      refine bodyPost_ret (v := .tuple #[.int .i64 0, .agg #[.bool false, .slice none 0 0, .slice none 0 0], .int .i64 72]) (by simp [results, Tryz.results6, asAddr, hD]) rfl ?_
      exact dec_no HE.out (by decide) HBF.out
    case pos =>
      subst q2
      have g2 : (((256 : Nat) : Int) != 256) = false := by decide
      have g3 : ((256 : Int) != 256) = false := by decide
      have HQ := Aside0.mk q
      by_cases q3 : hK xs = 76 ∨ hK xs = 66
      case neg =>
        have g4 : (hK xs != 76) = true := bne_iff_ne.2 (fun e => q3 (.inl e))
        have g5 : (hK xs != 66) = true := bne_iff_ne.2 (fun e => q3 (.inr e))
        have HE := Aside0.mk (show decE xs = 70 from by unfold decE; rw [if_neg (by omega), if_neg (fun h => h q), if_pos q3])
        clear q q3 hn
        go_enter Tryz.func6, Tryz.ntmps6
        go_upto_region 1 with fail
        have hB0 := (Below.refl _ w).alloc (Nat.le_refl _) (.cells #[.bool false, .slice none 0 0, .slice none 0 0] 28)
        have H0 := Aside0.mk (And.intro (heap_alloc_new w (.cells #[.bool false, .slice none 0 0, .slice none 0 0] 28)) (And.intro hB0 (HX.out.below hB0)))
        have H0s := Aside0.mk (show (w.alloc (.cells #[.bool false, .slice none 0 0, .slice none 0 0] 28)).heap.size = w.heap.size + 1 by simp)
        obtain ⟨w0, hw0⟩ : ∃ X, w.alloc (.cells #[.bool false, .slice none 0 0, .slice none 0 0] 28) = X := ⟨_, rfl⟩
        obtain ⟨N, hN⟩ : ∃ X, w.heap.size = X := ⟨_, rfl⟩
        rw [hw0, hN] at H0
        rw [hw0, hN]
        have HN := Aside0.mk hN
        clear hB0 hw0 hN
        go_upto_block 0 with (go_at_call 13; refine (cH w0 H0.out.2.2).mono ?_; rintro e w1 ⟨rfl, hB⟩; (have H1 := Aside0.mk hB); clear hB)
        have hA : DcH w N w1.heap.size A 256 c xs (.cells #[.int .i64 (hK xs), .int .i64 (hG xs), .int .i64 (hC xs), .int .i64 (hNx xs)] 47) (w1.alloc (.cells #[.int .i64 (hK xs), .int .i64 (hG xs), .int .i64 (hC xs), .int .i64 (hNx xs)] 47)) := by
          have hb1 := (Below.refl _ w1).alloc (Nat.le_refl _) (.cells #[.int .i64 (hK xs), .int .i64 (hG xs), .int .i64 (hC xs), .int .i64 (hNx xs)] 47)
          have hb2 := below_then H1.out H1.out.size hb1
          have hN := HN.out
          exact ⟨(hb2.block _ (Array.getElem?_eq_some_iff.1 H0.out.1).1).trans H0.out.1, heap_alloc_new w1 _, H0.out.2.2.below hb2, below_then (by rw [hN]; exact H0.out.2.1) (by have := H0.out.2.1.size; omega) hb2, by omega⟩
        obtain ⟨M, hM⟩ : ∃ X, w1.heap.size = X := ⟨_, rfl⟩
        obtain ⟨w2, hw2⟩ : ∃ X, w1.alloc (.cells #[.int .i64 (hK xs), .int .i64 (hG xs), .int .i64 (hC xs), .int .i64 (hNx xs)] 47) = X := ⟨_, rfl⟩
        rw [hw2, hM] at hA
        rw [hw2, hM]
        have H2 := Aside0.mk hA
        clear hA hw2 hM
        obtain ⟨y0, y1, y2, y3⟩ := item_cells2 H2.out.rm
        obtain ⟨x0, x1, x2⟩ := nd_cells H2.out.rn
        have yN := fun j => Go.Joins.unfrozen_of_block H2.out.rn j
        have hD := nload (nrow3_set (.bool false) (.slice none 0 0) (.slice none 0 0) H2.out.rn)
        have HBF := Aside0.mk ((nonly_set3 (W := w2) (g := N) (.bool false) (.slice none 0 0) (.slice none 0 0)).below H2.out.bel H2.out.lo (Nat.le_refl _))
        have HDL := Aside0.mk hD
        clear hD
        go_wp2_with fail
        have hD := HDL.out
        refine bodyPost_ret (v := .tuple #[.int .i64 0, .agg #[.bool false, .slice none 0 0, .slice none 0 0], .int .i64 70]) (by simp [results, Tryz.results6, asAddr, hD]) rfl ?_
        exact dec_no HE.out (by decide) HBF.out
      case pos =>
        by_cases q4 : 1 < hG xs ∧ ¬ sealB xs 4 = xs
        case pos =>
          have HE := Aside0.mk (show decE xs = 71 from by unfold decE; rw [if_neg (by omega), if_neg (fun h => h q), if_neg (fun h => h q3), if_pos q4])
          have d1 : decide (1 < hG xs) = true := decide_eq_true q4.1
          have HSE := Aside0.mk (show (decide ((0 : Int) ≤ 4 ∧ (4 : Int) ≤ ((256 : Nat) : Int) - 4) && sealB xs 4 == xs) = false by rw [beq_eq_false_iff_ne.2 q4.2, Bool.and_false])
          have hkk : (hK xs != 76) = false ∨ ((hK xs != 76) = true ∧ (hK xs != 66) = false) := by
            rcases q3 with q3 | q3
            · exact .inl (bne_eq_false_iff_eq.2 q3)
            · exact .inr ⟨bne_iff_ne.2 (by omega), bne_eq_false_iff_eq.2 q3⟩
          clear q q3 q4 hn
          go_enter Tryz.func6, Tryz.ntmps6
          go_upto_region 1 with fail
          have hB0 := (Below.refl _ w).alloc (Nat.le_refl _) (.cells #[.bool false, .slice none 0 0, .slice none 0 0] 28)
          have H0 := Aside0.mk (And.intro (heap_alloc_new w (.cells #[.bool false, .slice none 0 0, .slice none 0 0] 28)) (And.intro hB0 (HX.out.below hB0)))
          have H0s := Aside0.mk (show (w.alloc (.cells #[.bool false, .slice none 0 0, .slice none 0 0] 28)).heap.size = w.heap.size + 1 by simp)
          obtain ⟨w0, hw0⟩ : ∃ X, w.alloc (.cells #[.bool false, .slice none 0 0, .slice none 0 0] 28) = X := ⟨_, rfl⟩
          obtain ⟨N, hN⟩ : ∃ X, w.heap.size = X := ⟨_, rfl⟩
          rw [hw0, hN] at H0
          rw [hw0, hN]
          have HN := Aside0.mk hN
          clear hB0 hw0 hN
          go_upto_block 0 with (go_at_call 13; refine (cH w0 H0.out.2.2).mono ?_; rintro e w1 ⟨rfl, hB⟩; (have H1 := Aside0.mk hB); clear hB)
          have hA : DcH w N w1.heap.size A 256 c xs (.cells #[.int .i64 (hK xs), .int .i64 (hG xs), .int .i64 (hC xs), .int .i64 (hNx xs)] 47) (w1.alloc (.cells #[.int .i64 (hK xs), .int .i64 (hG xs), .int .i64 (hC xs), .int .i64 (hNx xs)] 47)) := by
            have hb1 := (Below.refl _ w1).alloc (Nat.le_refl _) (.cells #[.int .i64 (hK xs), .int .i64 (hG xs), .int .i64 (hC xs), .int .i64 (hNx xs)] 47)
            have hb2 := below_then H1.out H1.out.size hb1
            have hN := HN.out
            exact ⟨(hb2.block _ (Array.getElem?_eq_some_iff.1 H0.out.1).1).trans H0.out.1, heap_alloc_new w1 _, H0.out.2.2.below hb2, below_then (by rw [hN]; exact H0.out.2.1) (by have := H0.out.2.1.size; omega) hb2, by omega⟩
          obtain ⟨M, hM⟩ : ∃ X, w1.heap.size = X := ⟨_, rfl⟩
          obtain ⟨w2, hw2⟩ : ∃ X, w1.alloc (.cells #[.int .i64 (hK xs), .int .i64 (hG xs), .int .i64 (hC xs), .int .i64 (hNx xs)] 47) = X := ⟨_, rfl⟩
          rw [hw2, hM] at hA
          rw [hw2, hM]
          have H2 := Aside0.mk hA
          clear hA hw2 hM
          obtain ⟨y0, y1, y2, y3⟩ := item_cells2 H2.out.rm
          rcases hkk with g4 | ⟨g4, g5⟩
          · go_upto_region 9 with (first | (go_at_call 17; refine (summed_any (hG xs) _).mono ?_; rintro e w8 ⟨rfl, rfl⟩; rw [d1]) | (go_at_call 18; refine (sealed_any A 256 c xs 4 w2 H2.out.bs).mono ?_; rintro e w3 ⟨rfl, hB⟩; rw [HSE.out]; (have H3 := Aside0.mk (H2.out.step hB)); clear hB))
            clear y0 y1 y2 y3
            obtain ⟨x0, x1, x2⟩ := nd_cells H3.out.rn
            have yN := fun j => Go.Joins.unfrozen_of_block H3.out.rn j
            have hD := nload (nrow3_set (.bool false) (.slice none 0 0) (.slice none 0 0) H3.out.rn)
            have HBF := Aside0.mk ((nonly_set3 (W := w3) (g := N) (.bool false) (.slice none 0 0) (.slice none 0 0)).below H3.out.bel H3.out.lo (Nat.le_refl _))
            have HDL := Aside0.mk hD
            clear hD
            go_wp2_with fail
            have hD := HDL.out
            refine bodyPost_ret (v := .tuple #[.int .i64 0, .agg #[.bool false, .slice none 0 0, .slice none 0 0], .int .i64 71]) (by simp [results, Tryz.results6, asAddr, hD]) rfl ?_
            exact dec_no HE.out (by decide) HBF.out
          · go_upto_region 9 with (first | (go_at_call 17; refine (summed_any (hG xs) _).mono ?_; rintro e w8 ⟨rfl, rfl⟩; rw [d1]) | (go_at_call 18; refine (sealed_any A 256 c xs 4 w2 H2.out.bs).mono ?_; rintro e w3 ⟨rfl, hB⟩; rw [HSE.out]; (have H3 := Aside0.mk (H2.out.step hB)); clear hB))
            clear y0 y1 y2 y3
            obtain ⟨x0, x1, x2⟩ := nd_cells H3.out.rn
            have yN := fun j => Go.Joins.unfrozen_of_block H3.out.rn j
            have hD := nload (nrow3_set (.bool false) (.slice none 0 0) (.slice none 0 0) H3.out.rn)
            have HBF := Aside0.mk ((nonly_set3 (W := w3) (g := N) (.bool false) (.slice none 0 0) (.slice none 0 0)).below H3.out.bel H3.out.lo (Nat.le_refl _))
            have HDL := Aside0.mk hD
            clear hD
            go_wp2_with fail
            have hD := HDL.out
            refine bodyPost_ret (v := .tuple #[.int .i64 0, .agg #[.bool false, .slice none 0 0, .slice none 0 0], .int .i64 71]) (by simp [results, Tryz.results6, asAddr, hD]) rfl ?_
            exact dec_no HE.out (by decide) HBF.out
        case neg =>
          have HDE := Aside0.mk (show decE xs = if (dN xs).2.2 = true ∨ pgE (hG xs) (dN xs).1 ≠ 0 ∨ ¬ pgB (hG xs) (dN xs).1 = xs then 72 else 0 from by
            have e1 : ¬ (xs.length ≠ 256) := by omega
            unfold decE
            rw [if_neg e1, if_neg (fun h => h q), if_neg (fun h => h q3), if_neg q4])
          have HG1 := Aside0.mk (hE_in q)
          have HQ3 := Aside0.mk (And.intro q3 q4)
          obtain ⟨lf, hlf⟩ : ∃ b, (hK xs == 76) = b := ⟨_, rfl⟩
          have HLF := Aside0.mk hlf
          clear q q3 q4 hn hlf
          go_enter Tryz.func6, Tryz.ntmps6
          go_upto_region 1 with fail
          have hB0 := (Below.refl _ w).alloc (Nat.le_refl _) (.cells #[.bool false, .slice none 0 0, .slice none 0 0] 28)
          have H0 := Aside0.mk (And.intro (heap_alloc_new w (.cells #[.bool false, .slice none 0 0, .slice none 0 0] 28)) (And.intro hB0 (HX.out.below hB0)))
          have H0s := Aside0.mk (show (w.alloc (.cells #[.bool false, .slice none 0 0, .slice none 0 0] 28)).heap.size = w.heap.size + 1 by simp)
          obtain ⟨w0, hw0⟩ : ∃ X, w.alloc (.cells #[.bool false, .slice none 0 0, .slice none 0 0] 28) = X := ⟨_, rfl⟩
          obtain ⟨N, hN⟩ : ∃ X, w.heap.size = X := ⟨_, rfl⟩
          rw [hw0, hN] at H0
          rw [hw0, hN]
          have HN := Aside0.mk hN
          clear hB0 hw0 hN
          go_upto_block 0 with (go_at_call 13; refine (cH w0 H0.out.2.2).mono ?_; rintro e w1 ⟨rfl, hB⟩; (have H1 := Aside0.mk hB); clear hB)
          have hA : DcH w N w1.heap.size A 256 c xs (.cells #[.int .i64 (hK xs), .int .i64 (hG xs), .int .i64 (hC xs), .int .i64 (hNx xs)] 47) (w1.alloc (.cells #[.int .i64 (hK xs), .int .i64 (hG xs), .int .i64 (hC xs), .int .i64 (hNx xs)] 47)) := by
            have hb1 := (Below.refl _ w1).alloc (Nat.le_refl _) (.cells #[.int .i64 (hK xs), .int .i64 (hG xs), .int .i64 (hC xs), .int .i64 (hNx xs)] 47)
            have hb2 := below_then H1.out H1.out.size hb1
            have hN := HN.out
            exact ⟨(hb2.block _ (Array.getElem?_eq_some_iff.1 H0.out.1).1).trans H0.out.1, heap_alloc_new w1 _, H0.out.2.2.below hb2, below_then (by rw [hN]; exact H0.out.2.1) (by have := H0.out.2.1.size; omega) hb2, by omega⟩
          obtain ⟨M, hM⟩ : ∃ X, w1.heap.size = X := ⟨_, rfl⟩
          obtain ⟨w2, hw2⟩ : ∃ X, w1.alloc (.cells #[.int .i64 (hK xs), .int .i64 (hG xs), .int .i64 (hC xs), .int .i64 (hNx xs)] 47) = X := ⟨_, rfl⟩
          rw [hw2, hM] at hA
          rw [hw2, hM]
          have H2 := Aside0.mk hA
          clear hA hw2 hM
          obtain ⟨y0, y1, y2, y3⟩ := item_cells2 H2.out.rm
          clear y0 y1 y2 y3
          go_cut [] (fun wx => Aside0 (DcH w N M A 256 c xs (.cells #[.int .i64 (hK xs), .int .i64 (hG xs), .int .i64 (hC xs), .int .i64 (hNx xs)] 47) wx))
          case first =>
            obtain ⟨y0, y1, y2, y3⟩ := item_cells2 H2.out.rm
            obtain ⟨q3, q4⟩ := HQ3.out
            by_cases q5 : 1 < hG xs
            case pos =>
              have d1 : decide (1 < hG xs) = true := decide_eq_true q5
              have HSE := Aside0.mk (show (decide ((0 : Int) ≤ 4 ∧ (4 : Int) ≤ ((256 : Nat) : Int) - 4) && sealB xs 4 == xs) = true by
                have : sealB xs 4 = xs := Decidable.byContradiction (fun h => q4 ⟨q5, h⟩)
                rw [this]
                simp)
              have hkk : (hK xs != 76) = false ∨ ((hK xs != 76) = true ∧ (hK xs != 66) = false) := by
                rcases q3 with q3 | q3
                · exact .inl (bne_eq_false_iff_eq.2 q3)
                · exact .inr ⟨bne_iff_ne.2 (by omega), bne_eq_false_iff_eq.2 q3⟩
              clear q3 q4 q5
              rcases hkk with g4 | ⟨g4, g5⟩
              · go_wp2_with (first | (go_at_call 17; refine (summed_any (hG xs) _).mono ?_; rintro e w8 ⟨rfl, rfl⟩; rw [d1]) | (go_at_call 18; refine (sealed_any A 256 c xs 4 w2 H2.out.bs).mono ?_; rintro e w3 ⟨rfl, hB⟩; rw [HSE.out]; (have H3 := Aside0.mk (H2.out.step hB)); clear hB))
                go_meet
                exact ⟨H3.out⟩
              · go_wp2_with (first | (go_at_call 17; refine (summed_any (hG xs) _).mono ?_; rintro e w8 ⟨rfl, rfl⟩; rw [d1]) | (go_at_call 18; refine (sealed_any A 256 c xs 4 w2 H2.out.bs).mono ?_; rintro e w3 ⟨rfl, hB⟩; rw [HSE.out]; (have H3 := Aside0.mk (H2.out.step hB)); clear hB))
                go_meet
                exact ⟨H3.out⟩
            case neg =>
              have d1 : decide (1 < hG xs) = false := decide_eq_false q5
              have hkk : (hK xs != 76) = false ∨ ((hK xs != 76) = true ∧ (hK xs != 66) = false) := by
                rcases q3 with q3 | q3
                · exact .inl (bne_eq_false_iff_eq.2 q3)
                · exact .inr ⟨bne_iff_ne.2 (by omega), bne_eq_false_iff_eq.2 q3⟩
              clear q3 q4 q5
              rcases hkk with g4 | ⟨g4, g5⟩
              · go_wp2_with (go_at_call 17; refine (summed_any (hG xs) _).mono ?_; rintro e w8 ⟨rfl, rfl⟩; rw [d1])
                go_meet
                exact ⟨H2.out⟩
              · go_wp2_with (go_at_call 17; refine (summed_any (hG xs) _).mono ?_; rintro e w8 ⟨rfl, rfl⟩; rw [d1])
                go_meet
                exact ⟨H2.out⟩
          case rest =>
            have HC := hcut
            clear hcut cH g1 g2 g3
            have hlf := HLF.out
            go_upto_region 10 with fail
            have h3 := HC.out.step (below_drew (Below.refl _ wc))
            obtain ⟨u0, hu0⟩ : ∃ X, wc.drew = X := ⟨_, rfl⟩
            rw [hu0] at h3
            have H3 := Aside0.mk h3
            clear h3
            obtain ⟨ys, hys⟩ : ∃ y, bodyL xs = y := ⟨_, rfl⟩
            have HYS := Aside0.mk hys
            have HYL := Aside0.mk (show ys.length ≤ 256 by
              rw [← hys]
              unfold bodyL
              split
              · rw [List.length_drop]; have := HNL.out; omega
              · simp)
            refine wp_region_M (fun j => decide (j < 12)) (fun w' => w'.cell? ⟨M, 0, none⟩ = some (.int .i64 (hK xs)) ∧ w'.cell? ⟨M, 1, none⟩ = some (.int .i64 (hG xs))) (by kernel_rfl) ?_
            rw [hu0]
            clear hu0
            refine wpAnyM_take (i := 0) (v := ?_) (by simp only [List.getElem?_toArray, List.getElem?_cons_succ, List.getElem?_cons_zero]; rfl) (by kernel_rfl) (by kernel_rfl) (by kernel_rfl) (by kernel_rfl) (by exact fun _ _ _ h => h) (Or.inl ⟨by rfl, ?_⟩) H3.out.s01 ?_
            rotate_left
            · (intro w' hSw; (try dsimp only at hSw); go_simp; try with_reducible rfl)
            try simp only [Act.put, List.setIfInBounds_toArray, List.set_cons_zero, List.set_cons_succ]
            refine wpAnyM_take (i := 3) (v := ?_) (by simp only [List.getElem?_toArray, List.getElem?_cons_succ, List.getElem?_cons_zero]; rfl) (by kernel_rfl) (by kernel_rfl) (by kernel_rfl) (by kernel_rfl) (by exact fun _ _ _ h => h) (Or.inl ⟨by rfl, ?_⟩) H3.out.s01 ?_
            rotate_left
            · (intro w' hSw; (try dsimp only at hSw); go_simp; try with_reducible rfl)
            try simp only [Act.put, List.setIfInBounds_toArray, List.set_cons_zero, List.set_cons_succ]
            refine wpAnyM_take (i := 4) (v := ?_) (by simp only [List.getElem?_toArray, List.getElem?_cons_succ, List.getElem?_cons_zero]; rfl) (by kernel_rfl) (by kernel_rfl) (by kernel_rfl) (by kernel_rfl) (by exact fun _ _ _ h => h) (Or.inl ⟨by rfl, ?_⟩) H3.out.s01 ?_
            rotate_left
            · (intro w' hSw; (try dsimp only at hSw); go_simp; try with_reducible rfl)
            try simp only [Act.put, List.setIfInBounds_toArray, List.set_cons_zero, List.set_cons_succ]
            refine wpAnyM_take (i := 5) (v := ?_) (by simp only [List.getElem?_toArray, List.getElem?_cons_succ, List.getElem?_cons_zero]; rfl) (by kernel_rfl) (by kernel_rfl) (by kernel_rfl) (by kernel_rfl) (by exact fun _ _ _ h => h) (Or.inl ⟨by rfl, ?_⟩) H3.out.s01 ?_
            rotate_left
            · (intro w' hSw; (try dsimp only at hSw); go_simp; try with_reducible rfl)
            try simp only [Act.put, List.setIfInBounds_toArray, List.set_cons_zero, List.set_cons_succ]
            refine wpAnyM_take (i := 6) (v := ?_) (by simp only [List.getElem?_toArray, List.getElem?_cons_succ, List.getElem?_cons_zero]; rfl) (by kernel_rfl) (by kernel_rfl) (by kernel_rfl) (by kernel_rfl) (by exact fun _ _ _ h => h) (Or.inl ⟨by rfl, ?_⟩) H3.out.s01 ?_
            rotate_left
            · (intro w' hSw; (try dsimp only at hSw); go_simp; try with_reducible rfl)
            try simp only [Act.put, List.setIfInBounds_toArray, List.set_cons_zero, List.set_cons_succ]
            refine wpAnyM_take (i := 7) (v := ?_) (by simp only [List.getElem?_toArray, List.getElem?_cons_succ, List.getElem?_cons_zero]; rfl) (by kernel_rfl) (by kernel_rfl) (by kernel_rfl) (by kernel_rfl) (by exact fun _ _ _ h => h) (Or.inl ⟨by rfl, ?_⟩) H3.out.s01 ?_
            rotate_left
            · (intro w' hSw; (try dsimp only at hSw); go_simp; try with_reducible rfl)
            try simp only [Act.put, List.setIfInBounds_toArray, List.set_cons_zero, List.set_cons_succ]
            refine wpAnyM_take (i := 8) (v := ?_) (by simp only [List.getElem?_toArray, List.getElem?_cons_succ, List.getElem?_cons_zero]; rfl) (by kernel_rfl) (by kernel_rfl) (by kernel_rfl) (by kernel_rfl) (by exact fun _ _ _ h => h) (Or.inl ⟨by rfl, ?_⟩) H3.out.s01 ?_
            rotate_left
            · (intro w' hSw; (try dsimp only at hSw); go_simp; try with_reducible rfl)
            try simp only [Act.put, List.setIfInBounds_toArray, List.set_cons_zero, List.set_cons_succ]
            refine wpAnyM_one (i := 1) (by kernel_rfl) (by simp only [List.getElem?_toArray, List.getElem?_cons_succ, List.getElem?_cons_zero]; rfl) ?_
            have cB := body_any A 256 c xs u0 H3.out.bs
            rw [hys] at cB
            go_wp2_with (go_at_call 16; refine cB.mono ?_; rintro e u1 ⟨A1, c1, rfl, hO, hB⟩; (have H4 := Aside0.mk (And.intro (H3.out.step hB) (And.intro hO hB))); clear hO hB)
            clear cB hys
            refine ⟨H4.out.1.s01, ?_⟩
            try simp only [Act.put, List.setIfInBounds_toArray, List.set_cons_zero, List.set_cons_succ]
            refine wpAnyM_one (i := 2) (by kernel_rfl) (by simp only [List.getElem?_toArray, List.getElem?_cons_succ, List.getElem?_cons_zero]; rfl) ?_
            go_wp2_with (go_at_call 19; refine (newReader_any A1 ys.length c1 ys u1 H4.out.2.1.bs).mono ?_; rintro e u2 ⟨gr, Ar, cr, rfl, hg, hne, hc, hO, hB⟩; (have H5 := Aside0.mk (H4.out.1.step hB)); (have H6 := Aside0.mk (PgR.new (g := hG xs) (lf := lf) H4.out.2.2 hg hne hc hO hB)); clear hg hne hc hO hB)
            refine ⟨H5.out.s01, ?_⟩
            try simp only [Act.put, List.setIfInBounds_toArray, List.set_cons_zero, List.set_cons_succ]
            refine wpAnyM_take (i := 9) (v := ?_) (by simp only [List.getElem?_toArray, List.getElem?_cons_succ, List.getElem?_cons_zero]; rfl) (by kernel_rfl) (by kernel_rfl) (by kernel_rfl) (by kernel_rfl) (by exact fun _ _ _ h => h) (Or.inl ⟨by rfl, ?_⟩) H5.out.s01 ?_
            rotate_left
            · (intro w' hSw; (try dsimp only at hSw); go_simp; try with_reducible rfl)
            try simp only [Act.put, List.setIfInBounds_toArray, List.set_cons_zero, List.set_cons_succ]
            refine wpAnyM_one (i := 10) (by kernel_rfl) (by simp only [List.getElem?_toArray, List.getElem?_cons_succ, List.getElem?_cons_zero]; rfl) ?_
            go_wp2_with fail
            obtain ⟨R0, h7⟩ := H6.out
            have h9 := H5.out.step ((Below.refl _ u2).alloc (Nat.le_refl _) (rdO gr (hG xs) ⟨lf, (none, 0, 0), (none, 0, 0)⟩))
            rw [show (.cells #[.pointer (some ⟨gr, 0, none⟩), .int .i64 (hG xs), .bool lf, .slice none 0 0, .slice none 0 0] 59 : Obj) = rdO gr (hG xs) ⟨lf, (none, 0, 0), (none, 0, 0)⟩ from rfl]
            obtain ⟨rb, hrb⟩ : ∃ X, u2.heap.size = X := ⟨_, rfl⟩
            obtain ⟨u3, hu3⟩ : ∃ X, u2.alloc (rdO gr (hG xs) ⟨lf, (none, 0, 0), (none, 0, 0)⟩) = X := ⟨_, rfl⟩
            rw [hu3] at h7 h9
            rw [hrb] at h7
            rw [hu3, hrb]
            have H7 := Aside0.mk h7
            have H7b := Aside0.mk h9
            clear h7 h9 hu3 hrb hlf
            refine ⟨H7b.out.s01, ?_⟩
            try simp only [Act.put, List.setIfInBounds_toArray, List.set_cons_zero, List.set_cons_succ]
            refine wpAnyM_take (i := 11) (v := ?_) (by simp only [List.getElem?_toArray, List.getElem?_cons_succ, List.getElem?_cons_zero]; rfl) (by kernel_rfl) (by kernel_rfl) (by kernel_rfl) (by kernel_rfl) (by exact fun _ _ _ h => h) (Or.inl ⟨by rfl, ?_⟩) H7b.out.s01 ?_
            rotate_left
            · (intro w' hSw; (try dsimp only at hSw); go_simp; try with_reducible rfl)
            try simp only [Act.put, List.setIfInBounds_toArray, List.set_cons_zero, List.set_cons_succ]
            refine wpAnyM_done (by kernel_rfl) ?_ _
            obtain ⟨cn, hcn⟩ : ∃ k : Nat, hC xs = (k : Int) := ⟨_, rfl⟩
            have hcnb : cn ≤ 65535 := by
              have h1 := leN_lt ((xs.drop 2).take 2)
              have h2 : ((xs.drop 2).take 2).length ≤ 2 := by rw [List.length_take]; omega
              have h3 := Nat.pow_le_pow_right (show 0 < 256 by omega) h2
              have h4 : ((leN ((xs.drop 2).take 2) : Nat) : Int) = (cn : Int) := hcn
              have h5 : (256 : Nat) ^ 2 = 65536 := by decide
              omega
            have HCN := Aside0.mk hcn
            clear hcn
            have yl := rd_cell2 H7.out.row
            obtain ⟨z0, z1, z2, z3⟩ := rd_cells H7.out.row
            cases lf with
            | false =>
              go_upto_block 1 with fail
              clear yl z0 z1 z2 z3
              go_cut [9] (fun v9 wx => ∃ (R : List (Nat × Obj)) (IA : Option Addr) (In Ic : Nat) (KA : Option Addr) (Kn Kc : Nat) (is : List IH) (ks : List KH), Aside0 (PgR u0 gr rb Ar ys.length cr ys (hG xs) R ⟨false, (IA, In, Ic), (KA, Kn, Kc)⟩ is ks (dlo ys.length ys (hG xs) false cn).1 (dlo ys.length ys (hG xs) false cn).2.1 (dlo ys.length ys (hG xs) false cn).2.2 wx))
              case first =>
                go_wp2_with fail
                go_loopg [9] cn (fun gk v9 wr => ∃ (j : Nat) (R : List (Nat × Obj)) (IA : Option Addr) (In Ic : Nat) (KA : Option Addr) (Kn Kc : Nat) (is : List IH) (ks : List KH), Aside (gk + j = cn) ∧ v9 = .int .i64 (j : Int) ∧ Aside0 (PgR u0 gr rb Ar ys.length cr ys (hG xs) R ⟨false, (IA, In, Ic), (KA, Kn, Kc)⟩ is ks (dlo ys.length ys (hG xs) false j).1 (dlo ys.length ys (hG xs) false j).2.1 (dlo ys.length ys (hG xs) false j).2.2 wr))
                case atStart => exact ⟨0, R0, none, 0, 0, none, 0, 0, [], [], rfl, rfl, ⟨H7.out⟩⟩
                case round =>
                  obtain ⟨j, R1, IA, In, Ic, KA, Kn, Kc, is, ks, hk, rfl, hI⟩ := hrel
                  have hjm : j ≤ cn := by have := hk.out; omega
                  have hM := item_cells2 (H3.out.step hI.out.bel).rm
                  have z2 := hM.2.2.1
                  clear hM
                  have z0 := (rd_cells hI.out.row).1
                  rcases Nat.lt_or_ge j cn with hlt | hge
                  · have d1 : decide ((j : Int) < hC xs) = true := decide_eq_true (by rw [HCN.out]; omega)
                    have hjn : (j : Int) < hC xs := by rw [HCN.out]; omega
                    cases hsp : (dlo ys.length ys (hG xs) false j).2.2 with
                    | true =>
                      have HE := Aside0.mk (show dlo ys.length ys (hG xs) false cn = dlo ys.length ys (hG xs) false j by
                        have := dl_stuck hsp (cn - j)
                        rwa [show j + (cn - j) = cn by omega] at this)
                      have hcur := hI.out.cur
                      rw [hsp] at hcur
                      have HCU := Aside0.mk hcur
                      clear hcur hsp
                      have q30 : doneE true = 30 := rfl
                      go_wp2_with (go_at_call 22; refine (err_any gr Ar ys.length cr _ true wr HCU.out).mono ?_; rintro e w6 ⟨rfl, rfl⟩; rw [q30])
                      go_meet
                      exact ⟨R1, IA, In, Ic, KA, Kn, Kc, is, ks, ⟨by rw [HE.out]; exact hI.out⟩⟩
                    | false =>
                      have hcur := hI.out.cur
                      rw [hsp] at hcur
                      have HCU := Aside0.mk hcur
                      have HLN := Aside0.mk (show In ≤ 1000 ∧ Kn ≤ 1000 by
                        have h1 := hI.out.lens
                        have h2 := (dl_bnd (n := ys.length) (xs := ys) (g := hG xs) (lf := false) j).2.1
                        have h3 := HYL.out
                        simp only at h1
                        omega)
                      have HST := Aside0.mk (show dlo ys.length ys (hG xs) false (j + 1) = dstep ys.length ys (hG xs) false (dlo ys.length ys (hG xs) false j) ∧ dstep ys.length ys (hG xs) false (dlo ys.length ys (hG xs) false j) = (⟨(dlo ys.length ys (hG xs) false j).1.leaf, (dlo ys.length ys (hG xs) false j).1.items, (dlo ys.length ys (hG xs) false j).1.kids ++ [(rdK ys.length ys (hG xs) (dlo ys.length ys (hG xs) false j).2).1]⟩, (rdK ys.length ys (hG xs) (dlo ys.length ys (hG xs) false j).2).2) from ⟨rfl, by unfold dstep; rw [if_neg (by rw [hsp]; decide), if_neg (by decide)]⟩)
                      clear hcur hsp
                      have q0 : doneE false = 0 := rfl
                      go_wp2_with (first
                        | (go_at_call 22; refine (err_any gr Ar ys.length cr _ false wr HCU.out).mono ?_; rintro e w6 ⟨rfl, rfl⟩; rw [q0])
                        | (go_at_call 20; refine (rkid_any hI.out HLN.out.2).mono ?_; rintro e w7 ⟨R2, A2, c2, p2, rfl, hP⟩; (have H8 := Aside0.mk hP); clear hP))
                      go_roundg (cn - (j + 1))
                      case measure => have := hk.out; omega
                      case rel =>
                        refine ⟨j + 1, R2, IA, In, Ic, A2, Kn + 1, c2, is, ks ++ [p2], (by show cn - (j + 1) + (j + 1) = cn; omega), by go_num, ⟨?_⟩⟩
                        rw [HST.out.1, HST.out.2]
                        exact H8.out
                  · obtain rfl : cn = j := by omega
                    have d1 : decide ((cn : Int) < hC xs) = false := decide_eq_false (by rw [HCN.out]; omega)
                    have hjn : ¬ ((cn : Int) < hC xs) := by rw [HCN.out]; omega
                    go_wp2_with fail
                    go_meet
                    exact ⟨R1, IA, In, Ic, KA, Kn, Kc, is, ks, ⟨hI.out⟩⟩
              case rest =>
                obtain ⟨R1, IA, In, Ic, KA, Kn, Kc, is, ks, hcut⟩ := hcut
                have HFV := Aside0.mk (show dlo ys.length ys (hG xs) false cn = dN xs by
                  unfold dN
                  rw [HYS.out, HLF.out, HCN.out]
                  rfl)
                have HBD := Aside0.mk (dl_bnd (n := ys.length) (xs := ys) (g := hG xs) (lf := false) cn)
                rw [HFV.out] at hcut HBD
                obtain ⟨dd, hdd⟩ : ∃ x, dN xs = x := ⟨_, rfl⟩
                rw [hdd] at hcut HBD HFV
                have HDD := Aside0.mk hdd
                clear hdd
                obtain ⟨vv, sa, sp⟩ := dd
                have HQ := Aside0.mk (show PgR u0 gr rb Ar ys.length cr ys (hG xs) R1 ⟨false, (IA, In, Ic), (KA, Kn, Kc)⟩ is ks vv sa sp wc from hcut.out)
                have HLL := Aside0.mk (show vv.items.length ≤ 1000 ∧ vv.kids.length ≤ 1000 by
                  have h1 : vv.items.length + vv.kids.length ≤ ys.length + 1 := HBD.out.2.1
                  have h3 := HYL.out
                  omega)
                clear hcut
                have HSS := Aside0.mk (show ∀ X : World, Below u0.heap.size u0 X → X.heap[rb]? = some (rdO gr (hG xs) ⟨false, (IA, In, Ic), (KA, Kn, Kc)⟩) → X.cell? ⟨M, 1, none⟩ = some (.int .i64 (hG xs)) ∧ X.cell? ⟨rb, 2, none⟩ = some (.bool false) ∧ X.cell? ⟨rb, 3, none⟩ = some (.slice IA In Ic) ∧ X.cell? ⟨rb, 4, none⟩ = some (.slice KA Kn Kc) from fun X h1 h2 => ⟨(H3.out.step h1).s01.2, rd_cell2 h2, (rd_cells h2).2.2.1, (rd_cells h2).2.2.2⟩)
                go_upto_region 18 with fail
                have h8 := HQ.out.step (below_drew (Below.refl _ wc))
                obtain ⟨v0, hv0⟩ : ∃ X, wc.drew = X := ⟨_, rfl⟩
                rw [hv0] at h8
                have H8 := Aside0.mk h8
                clear h8
                refine wp_region_M (fun j => decide (j < 12)) (fun w' => w'.cell? ⟨M, 1, none⟩ = some (.int .i64 (hG xs)) ∧ w'.cell? ⟨rb, 2, none⟩ = some (.bool false) ∧ w'.cell? ⟨rb, 3, none⟩ = some (.slice IA In Ic) ∧ w'.cell? ⟨rb, 4, none⟩ = some (.slice KA Kn Kc)) (by kernel_rfl) ?_
                rw [hv0]
                clear hv0
                refine wpAnyM_take (i := 0) (v := ?_) (by simp only [List.getElem?_toArray, List.getElem?_cons_succ, List.getElem?_cons_zero]; rfl) (by kernel_rfl) (by kernel_rfl) (by kernel_rfl) (by kernel_rfl) (by exact fun _ _ _ h => h) (Or.inl ⟨by rfl, ?_⟩) (HSS.out _ H8.out.bel H8.out.row) ?_
                rotate_left
                · (intro w' hSw; (try dsimp only at hSw); go_simp; try with_reducible rfl)
                try simp only [Act.put, List.setIfInBounds_toArray, List.set_cons_zero, List.set_cons_succ]
                refine wpAnyM_take (i := 1) (v := ?_) (by simp only [List.getElem?_toArray, List.getElem?_cons_succ, List.getElem?_cons_zero]; rfl) (by kernel_rfl) (by kernel_rfl) (by kernel_rfl) (by kernel_rfl) (by exact fun _ _ _ h => h) (Or.inl ⟨by rfl, ?_⟩) (HSS.out _ H8.out.bel H8.out.row) ?_
                rotate_left
                · (intro w' hSw; (try dsimp only at hSw); go_simp; try with_reducible rfl)
                try simp only [Act.put, List.setIfInBounds_toArray, List.set_cons_zero, List.set_cons_succ]
                refine wpAnyM_take (i := 2) (v := ?_) (by simp only [List.getElem?_toArray, List.getElem?_cons_succ, List.getElem?_cons_zero]; rfl) (by kernel_rfl) (by kernel_rfl) (by kernel_rfl) (by kernel_rfl) (by exact fun _ _ _ h => h) (Or.inl ⟨by rfl, ?_⟩) (HSS.out _ H8.out.bel H8.out.row) ?_
                rotate_left
                · (intro w' hSw; (try dsimp only at hSw); go_simp; try with_reducible rfl)
                try simp only [Act.put, List.setIfInBounds_toArray, List.set_cons_zero, List.set_cons_succ]
                refine wpAnyM_take (i := 3) (v := ?_) (by simp only [List.getElem?_toArray, List.getElem?_cons_succ, List.getElem?_cons_zero]; rfl) (by kernel_rfl) (by kernel_rfl) (by kernel_rfl) (by kernel_rfl) (by exact fun _ _ _ h => h) (Or.inl ⟨by rfl, ?_⟩) (HSS.out _ H8.out.bel H8.out.row) ?_
                rotate_left
                · (intro w' hSw; (try dsimp only at hSw); go_simp; try with_reducible rfl)
                try simp only [Act.put, List.setIfInBounds_toArray, List.set_cons_zero, List.set_cons_succ]
                refine wpAnyM_take (i := 4) (v := ?_) (by simp only [List.getElem?_toArray, List.getElem?_cons_succ, List.getElem?_cons_zero]; rfl) (by kernel_rfl) (by kernel_rfl) (by kernel_rfl) (by kernel_rfl) (by exact fun _ _ _ h => h) (Or.inl ⟨by rfl, ?_⟩) (HSS.out _ H8.out.bel H8.out.row) ?_
                rotate_left
                · (intro w' hSw; (try dsimp only at hSw); go_simp; try with_reducible rfl)
                try simp only [Act.put, List.setIfInBounds_toArray, List.set_cons_zero, List.set_cons_succ]
                refine wpAnyM_take (i := 5) (v := ?_) (by simp only [List.getElem?_toArray, List.getElem?_cons_succ, List.getElem?_cons_zero]; rfl) (by kernel_rfl) (by kernel_rfl) (by kernel_rfl) (by kernel_rfl) (by exact fun _ _ _ h => h) (Or.inl ⟨by rfl, ?_⟩) (HSS.out _ H8.out.bel H8.out.row) ?_
                rotate_left
                · (intro w' hSw; (try dsimp only at hSw); go_simp; try with_reducible rfl)
                try simp only [Act.put, List.setIfInBounds_toArray, List.set_cons_zero, List.set_cons_succ]
                refine wpAnyM_one (i := 6) (by kernel_rfl) (by simp only [List.getElem?_toArray, List.getElem?_cons_succ, List.getElem?_cons_zero]; rfl) ?_
                go_wp2_with (go_at_call 10; refine (pencode_any ⟨false, (IA, In, Ic), (KA, Kn, Kc)⟩ is ks vv (hG xs) v0 (H8.out.nd HLL.out)).mono ?_; rintro e v1 ⟨A5, c5, rfl, hO, hB⟩; (have H9 := Aside0.mk (And.intro (H8.out.step hB) hO)); clear hO hB)
                refine ⟨HSS.out _ H9.out.1.bel H9.out.1.row, ?_⟩
                try simp only [Act.put, List.setIfInBounds_toArray, List.set_cons_zero, List.set_cons_succ]
                refine wpAnyM_take (i := 7) (v := ?_) (by simp only [List.getElem?_toArray, List.getElem?_cons_succ, List.getElem?_cons_zero]; rfl) (by kernel_rfl) (by kernel_rfl) (by kernel_rfl) (by kernel_rfl) (by exact fun _ _ _ h => h) (Or.inl ⟨by rfl, ?_⟩) (HSS.out _ H9.out.1.bel H9.out.1.row) ?_
                rotate_left
                · (intro w' hSw; (try dsimp only at hSw); go_simp; try with_reducible rfl)
                try simp only [Act.put, List.setIfInBounds_toArray, List.set_cons_zero, List.set_cons_succ]
                refine wpAnyM_take (i := 8) (v := ?_) (by simp only [List.getElem?_toArray, List.getElem?_cons_succ, List.getElem?_cons_zero]; rfl) (by kernel_rfl) (by kernel_rfl) (by kernel_rfl) (by kernel_rfl) (by exact fun _ _ _ h => h) (Or.inl ⟨by rfl, ?_⟩) (HSS.out _ H9.out.1.bel H9.out.1.row) ?_
                rotate_left
                · (intro w' hSw; (try dsimp only at hSw); go_simp; try with_reducible rfl)
                try simp only [Act.put, List.setIfInBounds_toArray, List.set_cons_zero, List.set_cons_succ]
                refine wpAnyM_take (i := 10) (v := ?_) (by simp only [List.getElem?_toArray, List.getElem?_cons_succ, List.getElem?_cons_zero]; rfl) (by kernel_rfl) (by kernel_rfl) (by kernel_rfl) (by kernel_rfl) (by exact fun _ _ _ h => h) (Or.inl ⟨by rfl, ?_⟩) (HSS.out _ H9.out.1.bel H9.out.1.row) ?_
                rotate_left
                · (intro w' hSw; (try dsimp only at hSw); go_simp; try with_reducible rfl)
                try simp only [Act.put, List.setIfInBounds_toArray, List.set_cons_zero, List.set_cons_succ]
                refine wpAnyM_take (i := 9) (v := ?_) (by simp only [List.getElem?_toArray, List.getElem?_cons_succ, List.getElem?_cons_zero]; rfl) (by kernel_rfl) (by kernel_rfl) (by kernel_rfl) (by kernel_rfl) (by exact fun _ _ _ h => h) (Or.inl ⟨by rfl, ?_⟩) (HSS.out _ H9.out.1.bel H9.out.1.row) ?_
                rotate_left
                · (intro w' hSw; (try dsimp only at hSw); go_simp; try with_reducible rfl)
                try simp only [Act.put, List.setIfInBounds_toArray, List.set_cons_zero, List.set_cons_succ]
                refine wpAnyM_take (i := 11) (v := ?_) (by simp only [List.getElem?_toArray, List.getElem?_cons_succ, List.getElem?_cons_zero]; rfl) (by kernel_rfl) (by kernel_rfl) (by kernel_rfl) (by kernel_rfl) (by exact fun _ _ _ h => h) (Or.inl ⟨by rfl, ?_⟩) (HSS.out _ H9.out.1.bel H9.out.1.row) ?_
                rotate_left
                · (intro w' hSw; (try dsimp only at hSw); go_simp; try with_reducible rfl)
                try simp only [Act.put, List.setIfInBounds_toArray, List.set_cons_zero, List.set_cons_succ]
                refine wpAnyM_done (by kernel_rfl) ?_ _
                have HD9 := Aside0.mk (H3.out.step H9.out.1.bel)
                have z0 := (rd_cells H9.out.1.row).1
                have HEE := Aside0.mk (show decE xs = if (sp = true ∨ pgE (hG xs) vv ≠ 0 ∨ ¬ pgB (hG xs) vv = xs) then 72 else 0 by
                  have h1 := HDE.out
                  rw [HDD.out] at h1
                  exact h1)
                by_cases q1 : sp = false ∧ pgE (hG xs) vv = 0 ∧ pgB (hG xs) vv = xs
                case neg =>
                  have HE := Aside0.mk (show decE xs = 72 by
                    rw [HEE.out, if_pos]
                    cases sp with
                    | true => exact .inl rfl
                    | false =>
                      by_cases e1 : pgE (hG xs) vv = 0
                      · exact .inr (.inr (fun e2 => q1 ⟨rfl, e1, e2⟩))
                      · exact .inr (.inl e1))
                  cases sp with
                  | true =>
                    clear q1
                    have q30 : doneE true = 30 := rfl
                    go_upto_region 20 with (go_at_call 22; refine (err_any gr Ar ys.length cr _ true v1 H9.out.1.cur).mono ?_; rintro e w6 ⟨rfl, rfl⟩; rw [q30])
                    obtain ⟨x0, x1, x2⟩ := nd_cells HD9.out.rn
                    have yN := fun j => Go.Joins.unfrozen_of_block HD9.out.rn j
                    have hD := nload (nrow3_set (.bool false) (.slice none 0 0) (.slice none 0 0) HD9.out.rn)
                    have HBF := Aside0.mk ((nonly_set3 (W := v1) (g := N) (.bool false) (.slice none 0 0) (.slice none 0 0)).below HD9.out.bel HD9.out.lo (Nat.le_refl _))
                    have HDL := Aside0.mk hD
                    clear hD
                    go_wp2_with fail
                    have hD := HDL.out
                    refine bodyPost_ret (v := .tuple #[.int .i64 0, .agg #[.bool false, .slice none 0 0, .slice none 0 0], .int .i64 72]) (by simp [results, Tryz.results6, asAddr, hD]) rfl ?_
                    exact dec_no HE.out (by decide) HBF.out
                  | false =>
                    have q0 : doneE false = 0 := rfl
                    by_cases e1 : pgE (hG xs) vv = 0
                    case neg =>
                      have e2 : (pgE (hG xs) vv != 0) = true := bne_iff_ne.2 e1
                      clear q1 e1
                      go_upto_region 20 with (go_at_call 22; refine (err_any gr Ar ys.length cr _ false v1 H9.out.1.cur).mono ?_; rintro e w6 ⟨rfl, rfl⟩; rw [q0])
                      obtain ⟨x0, x1, x2⟩ := nd_cells HD9.out.rn
                      have yN := fun j => Go.Joins.unfrozen_of_block HD9.out.rn j
                      have hD := nload (nrow3_set (.bool false) (.slice none 0 0) (.slice none 0 0) HD9.out.rn)
                      have HBF := Aside0.mk ((nonly_set3 (W := v1) (g := N) (.bool false) (.slice none 0 0) (.slice none 0 0)).below HD9.out.bel HD9.out.lo (Nat.le_refl _))
                      have HDL := Aside0.mk hD
                      clear hD
                      go_wp2_with fail
                      have hD := HDL.out
                      refine bodyPost_ret (v := .tuple #[.int .i64 0, .agg #[.bool false, .slice none 0 0, .slice none 0 0], .int .i64 72]) (by simp [results, Tryz.results6, asAddr, hD]) rfl ?_
                      exact dec_no HE.out (by decide) HBF.out
                    case pos =>
                      have e2 : (pgE (hG xs) vv != 0) = false := bne_eq_false_iff_eq.2 e1
                      have HQ2 := Aside0.mk (show (pgB (hG xs) vv == xs) = false from beq_eq_false_iff_ne.2 (fun e3 => q1 ⟨rfl, e1, e3⟩))
                      clear q1 e1
                      go_upto_region 20 with (first
                        | (go_at_call 22; refine (err_any gr Ar ys.length cr _ false v1 H9.out.1.cur).mono ?_; rintro e w6 ⟨rfl, rfl⟩; rw [q0])
                        | (go_at_call 11; refine (equal8_any _ _ _ _ _ _ _ _ v1 H9.out.2.bs HD9.out.bs).mono ?_; rintro e w6 ⟨rfl, rfl⟩; rw [HQ2.out]))
                      obtain ⟨x0, x1, x2⟩ := nd_cells HD9.out.rn
                      have yN := fun j => Go.Joins.unfrozen_of_block HD9.out.rn j
                      have hD := nload (nrow3_set (.bool false) (.slice none 0 0) (.slice none 0 0) HD9.out.rn)
                      have HBF := Aside0.mk ((nonly_set3 (W := v1) (g := N) (.bool false) (.slice none 0 0) (.slice none 0 0)).below HD9.out.bel HD9.out.lo (Nat.le_refl _))
                      have HDL := Aside0.mk hD
                      clear hD
                      go_wp2_with fail
                      have hD := HDL.out
                      refine bodyPost_ret (v := .tuple #[.int .i64 0, .agg #[.bool false, .slice none 0 0, .slice none 0 0], .int .i64 72]) (by simp [results, Tryz.results6, asAddr, hD]) rfl ?_
                      exact dec_no HE.out (by decide) HBF.out
                case pos =>
                  obtain ⟨rfl, e1, e3⟩ := q1
                  have HE := Aside0.mk (show decE xs = 0 by rw [HEE.out, if_neg]; rintro (h | h | h); cases h; exact h e1; exact h e3)
                  have e2 : (pgE (hG xs) vv != 0) = false := bne_eq_false_iff_eq.2 e1
                  have HQ2 := Aside0.mk (show (pgB (hG xs) vv == xs) = true from beq_iff_eq.2 e3)
                  have q0 : doneE false = 0 := rfl
                  clear e1 e3
                  go_upto_region 21 with (first
                    | (go_at_call 22; refine (err_any gr Ar ys.length cr _ false v1 H9.out.1.cur).mono ?_; rintro e w6 ⟨rfl, rfl⟩; rw [q0])
                    | (go_at_call 11; refine (equal8_any _ _ _ _ _ _ _ _ v1 H9.out.2.bs HD9.out.bs).mono ?_; rintro e w6 ⟨rfl, rfl⟩; rw [HQ2.out]))
                  have h8 := H9.out.1.step (below_drew (Below.refl _ v1))
                  obtain ⟨x9, hx9⟩ : ∃ X, v1.drew = X := ⟨_, rfl⟩
                  rw [hx9] at h8
                  have H10 := Aside0.mk h8
                  clear h8 z0
                  refine wp_region_M (fun j => decide (j < 7)) (fun w' => w'.cell? ⟨M, 1, none⟩ = some (.int .i64 (hG xs)) ∧ w'.cell? ⟨rb, 2, none⟩ = some (.bool false) ∧ w'.cell? ⟨rb, 3, none⟩ = some (.slice IA In Ic) ∧ w'.cell? ⟨rb, 4, none⟩ = some (.slice KA Kn Kc)) (by kernel_rfl) ?_
                  rw [hx9]
                  clear hx9
                  refine wpAnyM_take (i := 0) (v := ?_) (by simp only [List.getElem?_toArray, List.getElem?_cons_succ, List.getElem?_cons_zero]; rfl) (by kernel_rfl) (by kernel_rfl) (by kernel_rfl) (by kernel_rfl) (by exact fun _ _ _ h => h) (Or.inl ⟨by rfl, ?_⟩) (HSS.out _ H10.out.bel H10.out.row) ?_
                  rotate_left
                  · (intro w' hSw; (try dsimp only at hSw); go_simp; try with_reducible rfl)
                  try simp only [Act.put, List.setIfInBounds_toArray, List.set_cons_zero, List.set_cons_succ]
                  refine wpAnyM_take (i := 1) (v := ?_) (by simp only [List.getElem?_toArray, List.getElem?_cons_succ, List.getElem?_cons_zero]; rfl) (by kernel_rfl) (by kernel_rfl) (by kernel_rfl) (by kernel_rfl) (by exact fun _ _ _ h => h) (Or.inl ⟨by rfl, ?_⟩) (HSS.out _ H10.out.bel H10.out.row) ?_
                  rotate_left
                  · (intro w' hSw; (try dsimp only at hSw); go_simp; try with_reducible rfl)
                  try simp only [Act.put, List.setIfInBounds_toArray, List.set_cons_zero, List.set_cons_succ]
                  refine wpAnyM_take (i := 2) (v := ?_) (by simp only [List.getElem?_toArray, List.getElem?_cons_succ, List.getElem?_cons_zero]; rfl) (by kernel_rfl) (by kernel_rfl) (by kernel_rfl) (by kernel_rfl) (by exact fun _ _ _ h => h) (Or.inl ⟨by rfl, ?_⟩) (HSS.out _ H10.out.bel H10.out.row) ?_
                  rotate_left
                  · (intro w' hSw; (try dsimp only at hSw); go_simp; try with_reducible rfl)
                  try simp only [Act.put, List.setIfInBounds_toArray, List.set_cons_zero, List.set_cons_succ]
                  refine wpAnyM_take (i := 3) (v := ?_) (by simp only [List.getElem?_toArray, List.getElem?_cons_succ, List.getElem?_cons_zero]; rfl) (by kernel_rfl) (by kernel_rfl) (by kernel_rfl) (by kernel_rfl) (by exact fun _ _ _ h => h) (Or.inl ⟨by rfl, ?_⟩) (HSS.out _ H10.out.bel H10.out.row) ?_
                  rotate_left
                  · (intro w' hSw; (try dsimp only at hSw); go_simp; try with_reducible rfl)
                  try simp only [Act.put, List.setIfInBounds_toArray, List.set_cons_zero, List.set_cons_succ]
                  refine wpAnyM_take (i := 4) (v := ?_) (by simp only [List.getElem?_toArray, List.getElem?_cons_succ, List.getElem?_cons_zero]; rfl) (by kernel_rfl) (by kernel_rfl) (by kernel_rfl) (by kernel_rfl) (by exact fun _ _ _ h => h) (Or.inl ⟨by rfl, ?_⟩) (HSS.out _ H10.out.bel H10.out.row) ?_
                  rotate_left
                  · (intro w' hSw; (try dsimp only at hSw); go_simp; try with_reducible rfl)
                  try simp only [Act.put, List.setIfInBounds_toArray, List.set_cons_zero, List.set_cons_succ]
                  refine wpAnyM_take (i := 5) (v := ?_) (by simp only [List.getElem?_toArray, List.getElem?_cons_succ, List.getElem?_cons_zero]; rfl) (by kernel_rfl) (by kernel_rfl) (by kernel_rfl) (by kernel_rfl) (by exact fun _ _ _ h => h) (Or.inl ⟨by rfl, ?_⟩) (HSS.out _ H10.out.bel H10.out.row) ?_
                  rotate_left
                  · (intro w' hSw; (try dsimp only at hSw); go_simp; try with_reducible rfl)
                  try simp only [Act.put, List.setIfInBounds_toArray, List.set_cons_zero, List.set_cons_succ]
                  refine wpAnyM_take (i := 6) (v := ?_) (by simp only [List.getElem?_toArray, List.getElem?_cons_succ, List.getElem?_cons_zero]; rfl) (by kernel_rfl) (by kernel_rfl) (by kernel_rfl) (by kernel_rfl) (by exact fun _ _ _ h => h) (Or.inl ⟨by rfl, ?_⟩) (HSS.out _ H10.out.bel H10.out.row) ?_
                  rotate_left
                  · (intro w' hSw; (try dsimp only at hSw); go_simp; try with_reducible rfl)
                  try simp only [Act.put, List.setIfInBounds_toArray, List.set_cons_zero, List.set_cons_succ]
                  refine wpAnyM_one (i := 7) (by kernel_rfl) (by simp only [List.getElem?_toArray, List.getElem?_cons_succ, List.getElem?_cons_zero]; rfl) ?_
                  have HD10 := Aside0.mk (H3.out.step H10.out.bel)
                  obtain ⟨x0, x1, x2⟩ := nd_cells HD10.out.rn
                  have yN := fun j => Go.Joins.unfrozen_of_block HD10.out.rn j
                  have HDL := Aside0.mk (nload (nrow3_set (.bool false) (.slice IA In Ic) (.slice KA Kn Kc) HD10.out.rn))
                  have HOB := Aside0.mk (nonly_set3 (W := x9) (g := N) (.bool false) (.slice IA In Ic) (.slice KA Kn Kc))
                  go_wp2_with fail
                  try simp only [Act.put, List.setIfInBounds_toArray, List.set_cons_zero, List.set_cons_succ]
                  refine wpAnyM_one (i := 8) (by kernel_rfl) (by simp only [List.getElem?_toArray, List.getElem?_cons_succ, List.getElem?_cons_zero]; rfl) ?_
                  go_wp2_with fail
                  try simp only [Act.put, List.setIfInBounds_toArray, List.set_cons_zero, List.set_cons_succ]
                  refine wpAnyM_done (by kernel_rfl) ?_ _
                  have hD := HDL.out
                  go_wp2_with fail
                  refine bodyPost_ret (v := .tuple #[.int .i64 (hG xs), .agg #[.bool false, .slice IA In Ic, .slice KA Kn Kc], .int .i64 0]) (by simp [results, Tryz.results6, asAddr, hD]) rfl ?_
                  refine ⟨⟨false, (IA, In, Ic), (KA, Kn, Kc)⟩, is, ks, ?_, ?_, HOB.out.below HD10.out.bel HD10.out.lo (Nat.le_refl _)⟩
                  · unfold decG
                    rw [HE.out]
                    rfl
                  · unfold decV
                    rw [if_pos HE.out, HDD.out]
                    have hP := H10.out.pass HOB.out (Array.getElem?_eq_some_iff.1 H3.out.rn).1
                    exact ⟨H10.out.pf.leaf, hP.2.1.rc, hP.2.2.rc, H10.out.pf.li, H10.out.pf.lk, hP.1.its, hP.1.kds, by rw [H10.out.lens.1]; exact HLL.out.1, by rw [H10.out.lens.2]; exact HLL.out.2⟩
            | true =>
              go_upto_block 1 with fail
              clear yl z0 z1 z2 z3
              go_cut [9] (fun v9 wx => ∃ (R : List (Nat × Obj)) (IA : Option Addr) (In Ic : Nat) (KA : Option Addr) (Kn Kc : Nat) (is : List IH) (ks : List KH), Aside0 (PgR u0 gr rb Ar ys.length cr ys (hG xs) R ⟨true, (IA, In, Ic), (KA, Kn, Kc)⟩ is ks (dlo ys.length ys (hG xs) true cn).1 (dlo ys.length ys (hG xs) true cn).2.1 (dlo ys.length ys (hG xs) true cn).2.2 wx))
              case first =>
                go_wp2_with fail
                go_loopg [9] cn (fun gk v9 wr => ∃ (j : Nat) (R : List (Nat × Obj)) (IA : Option Addr) (In Ic : Nat) (KA : Option Addr) (Kn Kc : Nat) (is : List IH) (ks : List KH), Aside (gk + j = cn) ∧ v9 = .int .i64 (j : Int) ∧ Aside0 (PgR u0 gr rb Ar ys.length cr ys (hG xs) R ⟨true, (IA, In, Ic), (KA, Kn, Kc)⟩ is ks (dlo ys.length ys (hG xs) true j).1 (dlo ys.length ys (hG xs) true j).2.1 (dlo ys.length ys (hG xs) true j).2.2 wr))
                case atStart => exact ⟨0, R0, none, 0, 0, none, 0, 0, [], [], rfl, rfl, ⟨H7.out⟩⟩
                case round =>
                  obtain ⟨j, R1, IA, In, Ic, KA, Kn, Kc, is, ks, hk, rfl, hI⟩ := hrel
                  have hjm : j ≤ cn := by have := hk.out; omega
                  have hM := item_cells2 (H3.out.step hI.out.bel).rm
                  have z2 := hM.2.2.1
                  clear hM
                  have z0 := (rd_cells hI.out.row).1
                  rcases Nat.lt_or_ge j cn with hlt | hge
                  · have d1 : decide ((j : Int) < hC xs) = true := decide_eq_true (by rw [HCN.out]; omega)
                    have hjn : (j : Int) < hC xs := by rw [HCN.out]; omega
                    cases hsp : (dlo ys.length ys (hG xs) true j).2.2 with
                    | true =>
                      have HE := Aside0.mk (show dlo ys.length ys (hG xs) true cn = dlo ys.length ys (hG xs) true j by
                        have := dl_stuck hsp (cn - j)
                        rwa [show j + (cn - j) = cn by omega] at this)
                      have hcur := hI.out.cur
                      rw [hsp] at hcur
                      have HCU := Aside0.mk hcur
                      clear hcur hsp
                      have q30 : doneE true = 30 := rfl
                      go_wp2_with (go_at_call 22; refine (err_any gr Ar ys.length cr _ true wr HCU.out).mono ?_; rintro e w6 ⟨rfl, rfl⟩; rw [q30])
                      go_meet
                      exact ⟨R1, IA, In, Ic, KA, Kn, Kc, is, ks, ⟨by rw [HE.out]; exact hI.out⟩⟩
                    | false =>
                      have hcur := hI.out.cur
                      rw [hsp] at hcur
                      have HCU := Aside0.mk hcur
                      have HLN := Aside0.mk (show In ≤ 1000 ∧ Kn ≤ 1000 by
                        have h1 := hI.out.lens
                        have h2 := (dl_bnd (n := ys.length) (xs := ys) (g := hG xs) (lf := true) j).2.1
                        have h3 := HYL.out
                        simp only at h1
                        omega)
                      have HST := Aside0.mk (show dlo ys.length ys (hG xs) true (j + 1) = dstep ys.length ys (hG xs) true (dlo ys.length ys (hG xs) true j) ∧ dstep ys.length ys (hG xs) true (dlo ys.length ys (hG xs) true j) = (⟨(dlo ys.length ys (hG xs) true j).1.leaf, (dlo ys.length ys (hG xs) true j).1.items ++ [(rdI ys.length ys (hG xs) (dlo ys.length ys (hG xs) true j).2).1], (dlo ys.length ys (hG xs) true j).1.kids⟩, (rdI ys.length ys (hG xs) (dlo ys.length ys (hG xs) true j).2).2) from ⟨rfl, by unfold dstep; rw [if_neg (by rw [hsp]; decide), if_pos (by decide)]⟩)
                      clear hcur hsp
                      have q0 : doneE false = 0 := rfl
                      go_wp2_with (first
                        | (go_at_call 22; refine (err_any gr Ar ys.length cr _ false wr HCU.out).mono ?_; rintro e w6 ⟨rfl, rfl⟩; rw [q0])
                        | (go_at_call 21; refine (ritem_any hI.out HLN.out.1).mono ?_; rintro e w7 ⟨R2, A2, c2, p2, rfl, hP⟩; (have H8 := Aside0.mk hP); clear hP))
                      go_roundg (cn - (j + 1))
                      case measure => have := hk.out; omega
                      case rel =>
                        refine ⟨j + 1, R2, A2, In + 1, c2, KA, Kn, Kc, is ++ [p2], ks, (by show cn - (j + 1) + (j + 1) = cn; omega), by go_num, ⟨?_⟩⟩
                        rw [HST.out.1, HST.out.2]
                        exact H8.out
                  · obtain rfl : cn = j := by omega
                    have d1 : decide ((cn : Int) < hC xs) = false := decide_eq_false (by rw [HCN.out]; omega)
                    have hjn : ¬ ((cn : Int) < hC xs) := by rw [HCN.out]; omega
                    go_wp2_with fail
                    go_meet
                    exact ⟨R1, IA, In, Ic, KA, Kn, Kc, is, ks, ⟨hI.out⟩⟩
              case rest =>
                obtain ⟨R1, IA, In, Ic, KA, Kn, Kc, is, ks, hcut⟩ := hcut
                have HFV := Aside0.mk (show dlo ys.length ys (hG xs) true cn = dN xs by
                  unfold dN
                  rw [HYS.out, HLF.out, HCN.out]
                  rfl)
                have HBD := Aside0.mk (dl_bnd (n := ys.length) (xs := ys) (g := hG xs) (lf := true) cn)
                rw [HFV.out] at hcut HBD
                obtain ⟨dd, hdd⟩ : ∃ x, dN xs = x := ⟨_, rfl⟩
                rw [hdd] at hcut HBD HFV
                have HDD := Aside0.mk hdd
                clear hdd
                obtain ⟨vv, sa, sp⟩ := dd
                have HQ := Aside0.mk (show PgR u0 gr rb Ar ys.length cr ys (hG xs) R1 ⟨true, (IA, In, Ic), (KA, Kn, Kc)⟩ is ks vv sa sp wc from hcut.out)
                have HLL := Aside0.mk (show vv.items.length ≤ 1000 ∧ vv.kids.length ≤ 1000 by
                  have h1 : vv.items.length + vv.kids.length ≤ ys.length + 1 := HBD.out.2.1
                  have h3 := HYL.out
                  omega)
                clear hcut
                have HSS := Aside0.mk (show ∀ X : World, Below u0.heap.size u0 X → X.heap[rb]? = some (rdO gr (hG xs) ⟨true, (IA, In, Ic), (KA, Kn, Kc)⟩) → X.cell? ⟨M, 1, none⟩ = some (.int .i64 (hG xs)) ∧ X.cell? ⟨rb, 2, none⟩ = some (.bool true) ∧ X.cell? ⟨rb, 3, none⟩ = some (.slice IA In Ic) ∧ X.cell? ⟨rb, 4, none⟩ = some (.slice KA Kn Kc) from fun X h1 h2 => ⟨(H3.out.step h1).s01.2, rd_cell2 h2, (rd_cells h2).2.2.1, (rd_cells h2).2.2.2⟩)
                go_upto_region 18 with fail
                have h8 := HQ.out.step (below_drew (Below.refl _ wc))
                obtain ⟨v0, hv0⟩ : ∃ X, wc.drew = X := ⟨_, rfl⟩
                rw [hv0] at h8
                have H8 := Aside0.mk h8
                clear h8
                refine wp_region_M (fun j => decide (j < 12)) (fun w' => w'.cell? ⟨M, 1, none⟩ = some (.int .i64 (hG xs)) ∧ w'.cell? ⟨rb, 2, none⟩ = some (.bool true) ∧ w'.cell? ⟨rb, 3, none⟩ = some (.slice IA In Ic) ∧ w'.cell? ⟨rb, 4, none⟩ = some (.slice KA Kn Kc)) (by kernel_rfl) ?_
                rw [hv0]
                clear hv0
                refine wpAnyM_take (i := 0) (v := ?_) (by simp only [List.getElem?_toArray, List.getElem?_cons_succ, List.getElem?_cons_zero]; rfl) (by kernel_rfl) (by kernel_rfl) (by kernel_rfl) (by kernel_rfl) (by exact fun _ _ _ h => h) (Or.inl ⟨by rfl, ?_⟩) (HSS.out _ H8.out.bel H8.out.row) ?_
                rotate_left
                · (intro w' hSw; (try dsimp only at hSw); go_simp; try with_reducible rfl)
                try simp only [Act.put, List.setIfInBounds_toArray, List.set_cons_zero, List.set_cons_succ]
                refine wpAnyM_take (i := 1) (v := ?_) (by simp only [List.getElem?_toArray, List.getElem?_cons_succ, List.getElem?_cons_zero]; rfl) (by kernel_rfl) (by kernel_rfl) (by kernel_rfl) (by kernel_rfl) (by exact fun _ _ _ h => h) (Or.inl ⟨by rfl, ?_⟩) (HSS.out _ H8.out.bel H8.out.row) ?_
                rotate_left
                · (intro w' hSw; (try dsimp only at hSw); go_simp; try with_reducible rfl)
                try simp only [Act.put, List.setIfInBounds_toArray, List.set_cons_zero, List.set_cons_succ]
                refine wpAnyM_take (i := 2) (v := ?_) (by simp only [List.getElem?_toArray, List.getElem?_cons_succ, List.getElem?_cons_zero]; rfl) (by kernel_rfl) (by kernel_rfl) (by kernel_rfl) (by kernel_rfl) (by exact fun _ _ _ h => h) (Or.inl ⟨by rfl, ?_⟩) (HSS.out _ H8.out.bel H8.out.row) ?_
                rotate_left
                · (intro w' hSw; (try dsimp only at hSw); go_simp; try with_reducible rfl)
                try simp only [Act.put, List.setIfInBounds_toArray, List.set_cons_zero, List.set_cons_succ]
                refine wpAnyM_take (i := 3) (v := ?_) (by simp only [List.getElem?_toArray, List.getElem?_cons_succ, List.getElem?_cons_zero]; rfl) (by kernel_rfl) (by kernel_rfl) (by kernel_rfl) (by kernel_rfl) (by exact fun _ _ _ h => h) (Or.inl ⟨by rfl, ?_⟩) (HSS.out _ H8.out.bel H8.out.row) ?_
                rotate_left
                · (intro w' hSw; (try dsimp only at hSw); go_simp; try with_reducible rfl)
                try simp only [Act.put, List.setIfInBounds_toArray, List.set_cons_zero, List.set_cons_succ]
                refine wpAnyM_take (i := 4) (v := ?_) (by simp only [List.getElem?_toArray, List.getElem?_cons_succ, List.getElem?_cons_zero]; rfl) (by kernel_rfl) (by kernel_rfl) (by kernel_rfl) (by kernel_rfl) (by exact fun _ _ _ h => h) (Or.inl ⟨by rfl, ?_⟩) (HSS.out _ H8.out.bel H8.out.row) ?_
                rotate_left
                · (intro w' hSw; (try dsimp only at hSw); go_simp; try with_reducible rfl)
                try simp only [Act.put, List.setIfInBounds_toArray, List.set_cons_zero, List.set_cons_succ]
                refine wpAnyM_take (i := 5) (v := ?_) (by simp only [List.getElem?_toArray, List.getElem?_cons_succ, List.getElem?_cons_zero]; rfl) (by kernel_rfl) (by kernel_rfl) (by kernel_rfl) (by kernel_rfl) (by exact fun _ _ _ h => h) (Or.inl ⟨by rfl, ?_⟩) (HSS.out _ H8.out.bel H8.out.row) ?_
                rotate_left
                · (intro w' hSw; (try dsimp only at hSw); go_simp; try with_reducible rfl)
                try simp only [Act.put, List.setIfInBounds_toArray, List.set_cons_zero, List.set_cons_succ]
                refine wpAnyM_one (i := 6) (by kernel_rfl) (by simp only [List.getElem?_toArray, List.getElem?_cons_succ, List.getElem?_cons_zero]; rfl) ?_
                go_wp2_with (go_at_call 10; refine (pencode_any ⟨true, (IA, In, Ic), (KA, Kn, Kc)⟩ is ks vv (hG xs) v0 (H8.out.nd HLL.out)).mono ?_; rintro e v1 ⟨A5, c5, rfl, hO, hB⟩; (have H9 := Aside0.mk (And.intro (H8.out.step hB) hO)); clear hO hB)
                refine ⟨HSS.out _ H9.out.1.bel H9.out.1.row, ?_⟩
                try simp only [Act.put, List.setIfInBounds_toArray, List.set_cons_zero, List.set_cons_succ]
                refine wpAnyM_take (i := 7) (v := ?_) (by simp only [List.getElem?_toArray, List.getElem?_cons_succ, List.getElem?_cons_zero]; rfl) (by kernel_rfl) (by kernel_rfl) (by kernel_rfl) (by kernel_rfl) (by exact fun _ _ _ h => h) (Or.inl ⟨by rfl, ?_⟩) (HSS.out _ H9.out.1.bel H9.out.1.row) ?_
                rotate_left
                · (intro w' hSw; (try dsimp only at hSw); go_simp; try with_reducible rfl)
                try simp only [Act.put, List.setIfInBounds_toArray, List.set_cons_zero, List.set_cons_succ]
                refine wpAnyM_take (i := 8) (v := ?_) (by simp only [List.getElem?_toArray, List.getElem?_cons_succ, List.getElem?_cons_zero]; rfl) (by kernel_rfl) (by kernel_rfl) (by kernel_rfl) (by kernel_rfl) (by exact fun _ _ _ h => h) (Or.inl ⟨by rfl, ?_⟩) (HSS.out _ H9.out.1.bel H9.out.1.row) ?_
                rotate_left
                · (intro w' hSw; (try dsimp only at hSw); go_simp; try with_reducible rfl)
                try simp only [Act.put, List.setIfInBounds_toArray, List.set_cons_zero, List.set_cons_succ]
                refine wpAnyM_take (i := 10) (v := ?_) (by simp only [List.getElem?_toArray, List.getElem?_cons_succ, List.getElem?_cons_zero]; rfl) (by kernel_rfl) (by kernel_rfl) (by kernel_rfl) (by kernel_rfl) (by exact fun _ _ _ h => h) (Or.inl ⟨by rfl, ?_⟩) (HSS.out _ H9.out.1.bel H9.out.1.row) ?_
                rotate_left
                · (intro w' hSw; (try dsimp only at hSw); go_simp; try with_reducible rfl)
                try simp only [Act.put, List.setIfInBounds_toArray, List.set_cons_zero, List.set_cons_succ]
                refine wpAnyM_take (i := 9) (v := ?_) (by simp only [List.getElem?_toArray, List.getElem?_cons_succ, List.getElem?_cons_zero]; rfl) (by kernel_rfl) (by kernel_rfl) (by kernel_rfl) (by kernel_rfl) (by exact fun _ _ _ h => h) (Or.inl ⟨by rfl, ?_⟩) (HSS.out _ H9.out.1.bel H9.out.1.row) ?_
                rotate_left
                · (intro w' hSw; (try dsimp only at hSw); go_simp; try with_reducible rfl)
                try simp only [Act.put, List.setIfInBounds_toArray, List.set_cons_zero, List.set_cons_succ]
                refine wpAnyM_take (i := 11) (v := ?_) (by simp only [List.getElem?_toArray, List.getElem?_cons_succ, List.getElem?_cons_zero]; rfl) (by kernel_rfl) (by kernel_rfl) (by kernel_rfl) (by kernel_rfl) (by exact fun _ _ _ h => h) (Or.inl ⟨by rfl, ?_⟩) (HSS.out _ H9.out.1.bel H9.out.1.row) ?_
                rotate_left
                · (intro w' hSw; (try dsimp only at hSw); go_simp; try with_reducible rfl)
                try simp only [Act.put, List.setIfInBounds_toArray, List.set_cons_zero, List.set_cons_succ]
                refine wpAnyM_done (by kernel_rfl) ?_ _
                have HD9 := Aside0.mk (H3.out.step H9.out.1.bel)
                have z0 := (rd_cells H9.out.1.row).1
                have HEE := Aside0.mk (show decE xs = if (sp = true ∨ pgE (hG xs) vv ≠ 0 ∨ ¬ pgB (hG xs) vv = xs) then 72 else 0 by
                  have h1 := HDE.out
                  rw [HDD.out] at h1
                  exact h1)
                by_cases q1 : sp = false ∧ pgE (hG xs) vv = 0 ∧ pgB (hG xs) vv = xs
                case neg =>
                  have HE := Aside0.mk (show decE xs = 72 by
                    rw [HEE.out, if_pos]
                    cases sp with
                    | true => exact .inl rfl
                    | false =>
                      by_cases e1 : pgE (hG xs) vv = 0
                      · exact .inr (.inr (fun e2 => q1 ⟨rfl, e1, e2⟩))
                      · exact .inr (.inl e1))
                  cases sp with
                  | true =>
                    clear q1
                    have q30 : doneE true = 30 := rfl
                    go_upto_region 20 with (go_at_call 22; refine (err_any gr Ar ys.length cr _ true v1 H9.out.1.cur).mono ?_; rintro e w6 ⟨rfl, rfl⟩; rw [q30])
                    obtain ⟨x0, x1, x2⟩ := nd_cells HD9.out.rn
                    have yN := fun j => Go.Joins.unfrozen_of_block HD9.out.rn j
                    have hD := nload (nrow3_set (.bool false) (.slice none 0 0) (.slice none 0 0) HD9.out.rn)
                    have HBF := Aside0.mk ((nonly_set3 (W := v1) (g := N) (.bool false) (.slice none 0 0) (.slice none 0 0)).below HD9.out.bel HD9.out.lo (Nat.le_refl _))
                    have HDL := Aside0.mk hD
                    clear hD
                    go_wp2_with fail
                    have hD := HDL.out
                    refine bodyPost_ret (v := .tuple #[.int .i64 0, .agg #[.bool false, .slice none 0 0, .slice none 0 0], .int .i64 72]) (by simp [results, Tryz.results6, asAddr, hD]) rfl ?_
                    exact dec_no HE.out (by decide) HBF.out
                  | false =>
                    have q0 : doneE false = 0 := rfl
                    by_cases e1 : pgE (hG xs) vv = 0
                    case neg =>
                      have e2 : (pgE (hG xs) vv != 0) = true := bne_iff_ne.2 e1
                      clear q1 e1
                      go_upto_region 20 with (go_at_call 22; refine (err_any gr Ar ys.length cr _ false v1 H9.out.1.cur).mono ?_; rintro e w6 ⟨rfl, rfl⟩; rw [q0])
                      obtain ⟨x0, x1, x2⟩ := nd_cells HD9.out.rn
                      have yN := fun j => Go.Joins.unfrozen_of_block HD9.out.rn j
                      have hD := nload (nrow3_set (.bool false) (.slice none 0 0) (.slice none 0 0) HD9.out.rn)
                      have HBF := Aside0.mk ((nonly_set3 (W := v1) (g := N) (.bool false) (.slice none 0 0) (.slice none 0 0)).below HD9.out.bel HD9.out.lo (Nat.le_refl _))
                      have HDL := Aside0.mk hD
                      clear hD
                      go_wp2_with fail
                      have hD := HDL.out
                      refine bodyPost_ret (v := .tuple #[.int .i64 0, .agg #[.bool false, .slice none 0 0, .slice none 0 0], .int .i64 72]) (by simp [results, Tryz.results6, asAddr, hD]) rfl ?_
                      exact dec_no HE.out (by decide) HBF.out
                    case pos =>
                      have e2 : (pgE (hG xs) vv != 0) = false := bne_eq_false_iff_eq.2 e1
                      have HQ2 := Aside0.mk (show (pgB (hG xs) vv == xs) = false from beq_eq_false_iff_ne.2 (fun e3 => q1 ⟨rfl, e1, e3⟩))
                      clear q1 e1
                      go_upto_region 20 with (first
                        | (go_at_call 22; refine (err_any gr Ar ys.length cr _ false v1 H9.out.1.cur).mono ?_; rintro e w6 ⟨rfl, rfl⟩; rw [q0])
                        | (go_at_call 11; refine (equal8_any _ _ _ _ _ _ _ _ v1 H9.out.2.bs HD9.out.bs).mono ?_; rintro e w6 ⟨rfl, rfl⟩; rw [HQ2.out]))
                      obtain ⟨x0, x1, x2⟩ := nd_cells HD9.out.rn
                      have yN := fun j => Go.Joins.unfrozen_of_block HD9.out.rn j
                      have hD := nload (nrow3_set (.bool false) (.slice none 0 0) (.slice none 0 0) HD9.out.rn)
                      have HBF := Aside0.mk ((nonly_set3 (W := v1) (g := N) (.bool false) (.slice none 0 0) (.slice none 0 0)).below HD9.out.bel HD9.out.lo (Nat.le_refl _))
                      have HDL := Aside0.mk hD
                      clear hD
                      go_wp2_with fail
                      have hD := HDL.out
                      refine bodyPost_ret (v := .tuple #[.int .i64 0, .agg #[.bool false, .slice none 0 0, .slice none 0 0], .int .i64 72]) (by simp [results, Tryz.results6, asAddr, hD]) rfl ?_
                      exact dec_no HE.out (by decide) HBF.out
                case pos =>
                  obtain ⟨rfl, e1, e3⟩ := q1
                  have HE := Aside0.mk (show decE xs = 0 by rw [HEE.out, if_neg]; rintro (h | h | h); cases h; exact h e1; exact h e3)
                  have e2 : (pgE (hG xs) vv != 0) = false := bne_eq_false_iff_eq.2 e1
                  have HQ2 := Aside0.mk (show (pgB (hG xs) vv == xs) = true from beq_iff_eq.2 e3)
                  have q0 : doneE false = 0 := rfl
                  clear e1 e3
                  go_upto_region 21 with (first
                    | (go_at_call 22; refine (err_any gr Ar ys.length cr _ false v1 H9.out.1.cur).mono ?_; rintro e w6 ⟨rfl, rfl⟩; rw [q0])
                    | (go_at_call 11; refine (equal8_any _ _ _ _ _ _ _ _ v1 H9.out.2.bs HD9.out.bs).mono ?_; rintro e w6 ⟨rfl, rfl⟩; rw [HQ2.out]))
                  have h8 := H9.out.1.step (below_drew (Below.refl _ v1))
                  obtain ⟨x9, hx9⟩ : ∃ X, v1.drew = X := ⟨_, rfl⟩
                  rw [hx9] at h8
                  have H10 := Aside0.mk h8
                  clear h8 z0
                  refine wp_region_M (fun j => decide (j < 7)) (fun w' => w'.cell? ⟨M, 1, none⟩ = some (.int .i64 (hG xs)) ∧ w'.cell? ⟨rb, 2, none⟩ = some (.bool true) ∧ w'.cell? ⟨rb, 3, none⟩ = some (.slice IA In Ic) ∧ w'.cell? ⟨rb, 4, none⟩ = some (.slice KA Kn Kc)) (by kernel_rfl) ?_
                  rw [hx9]
                  clear hx9
                  refine wpAnyM_take (i := 0) (v := ?_) (by simp only [List.getElem?_toArray, List.getElem?_cons_succ, List.getElem?_cons_zero]; rfl) (by kernel_rfl) (by kernel_rfl) (by kernel_rfl) (by kernel_rfl) (by exact fun _ _ _ h => h) (Or.inl ⟨by rfl, ?_⟩) (HSS.out _ H10.out.bel H10.out.row) ?_
                  rotate_left
                  · (intro w' hSw; (try dsimp only at hSw); go_simp; try with_reducible rfl)
                  try simp only [Act.put, List.setIfInBounds_toArray, List.set_cons_zero, List.set_cons_succ]
                  refine wpAnyM_take (i := 1) (v := ?_) (by simp only [List.getElem?_toArray, List.getElem?_cons_succ, List.getElem?_cons_zero]; rfl) (by kernel_rfl) (by kernel_rfl) (by kernel_rfl) (by kernel_rfl) (by exact fun _ _ _ h => h) (Or.inl ⟨by rfl, ?_⟩) (HSS.out _ H10.out.bel H10.out.row) ?_
                  rotate_left
                  · (intro w' hSw; (try dsimp only at hSw); go_simp; try with_reducible rfl)
                  try simp only [Act.put, List.setIfInBounds_toArray, List.set_cons_zero, List.set_cons_succ]
                  refine wpAnyM_take (i := 2) (v := ?_) (by simp only [List.getElem?_toArray, List.getElem?_cons_succ, List.getElem?_cons_zero]; rfl) (by kernel_rfl) (by kernel_rfl) (by kernel_rfl) (by kernel_rfl) (by exact fun _ _ _ h => h) (Or.inl ⟨by rfl, ?_⟩) (HSS.out _ H10.out.bel H10.out.row) ?_
                  rotate_left
                  · (intro w' hSw; (try dsimp only at hSw); go_simp; try with_reducible rfl)
                  try simp only [Act.put, List.setIfInBounds_toArray, List.set_cons_zero, List.set_cons_succ]
                  refine wpAnyM_take (i := 3) (v := ?_) (by simp only [List.getElem?_toArray, List.getElem?_cons_succ, List.getElem?_cons_zero]; rfl) (by kernel_rfl) (by kernel_rfl) (by kernel_rfl) (by kernel_rfl) (by exact fun _ _ _ h => h) (Or.inl ⟨by rfl, ?_⟩) (HSS.out _ H10.out.bel H10.out.row) ?_
                  rotate_left
                  · (intro w' hSw; (try dsimp only at hSw); go_simp; try with_reducible rfl)
                  try simp only [Act.put, List.setIfInBounds_toArray, List.set_cons_zero, List.set_cons_succ]
                  refine wpAnyM_take (i := 4) (v := ?_) (by simp only [List.getElem?_toArray, List.getElem?_cons_succ, List.getElem?_cons_zero]; rfl) (by kernel_rfl) (by kernel_rfl) (by kernel_rfl) (by kernel_rfl) (by exact fun _ _ _ h => h) (Or.inl ⟨by rfl, ?_⟩) (HSS.out _ H10.out.bel H10.out.row) ?_
                  rotate_left
                  · (intro w' hSw; (try dsimp only at hSw); go_simp; try with_reducible rfl)
                  try simp only [Act.put, List.setIfInBounds_toArray, List.set_cons_zero, List.set_cons_succ]
                  refine wpAnyM_take (i := 5) (v := ?_) (by simp only [List.getElem?_toArray, List.getElem?_cons_succ, List.getElem?_cons_zero]; rfl) (by kernel_rfl) (by kernel_rfl) (by kernel_rfl) (by kernel_rfl) (by exact fun _ _ _ h => h) (Or.inl ⟨by rfl, ?_⟩) (HSS.out _ H10.out.bel H10.out.row) ?_
                  rotate_left
                  · (intro w' hSw; (try dsimp only at hSw); go_simp; try with_reducible rfl)
                  try simp only [Act.put, List.setIfInBounds_toArray, List.set_cons_zero, List.set_cons_succ]
                  refine wpAnyM_take (i := 6) (v := ?_) (by simp only [List.getElem?_toArray, List.getElem?_cons_succ, List.getElem?_cons_zero]; rfl) (by kernel_rfl) (by kernel_rfl) (by kernel_rfl) (by kernel_rfl) (by exact fun _ _ _ h => h) (Or.inl ⟨by rfl, ?_⟩) (HSS.out _ H10.out.bel H10.out.row) ?_
                  rotate_left
                  · (intro w' hSw; (try dsimp only at hSw); go_simp; try with_reducible rfl)
                  try simp only [Act.put, List.setIfInBounds_toArray, List.set_cons_zero, List.set_cons_succ]
                  refine wpAnyM_one (i := 7) (by kernel_rfl) (by simp only [List.getElem?_toArray, List.getElem?_cons_succ, List.getElem?_cons_zero]; rfl) ?_
                  have HD10 := Aside0.mk (H3.out.step H10.out.bel)
                  obtain ⟨x0, x1, x2⟩ := nd_cells HD10.out.rn
                  have yN := fun j => Go.Joins.unfrozen_of_block HD10.out.rn j
                  have HDL := Aside0.mk (nload (nrow3_set (.bool true) (.slice IA In Ic) (.slice KA Kn Kc) HD10.out.rn))
                  have HOB := Aside0.mk (nonly_set3 (W := x9) (g := N) (.bool true) (.slice IA In Ic) (.slice KA Kn Kc))
                  go_wp2_with fail
                  try simp only [Act.put, List.setIfInBounds_toArray, List.set_cons_zero, List.set_cons_succ]
                  refine wpAnyM_one (i := 8) (by kernel_rfl) (by simp only [List.getElem?_toArray, List.getElem?_cons_succ, List.getElem?_cons_zero]; rfl) ?_
                  go_wp2_with fail
                  try simp only [Act.put, List.setIfInBounds_toArray, List.set_cons_zero, List.set_cons_succ]
                  refine wpAnyM_done (by kernel_rfl) ?_ _
                  have hD := HDL.out
                  go_wp2_with fail
                  refine bodyPost_ret (v := .tuple #[.int .i64 (hG xs), .agg #[.bool true, .slice IA In Ic, .slice KA Kn Kc], .int .i64 0]) (by simp [results, Tryz.results6, asAddr, hD]) rfl ?_
                  refine ⟨⟨true, (IA, In, Ic), (KA, Kn, Kc)⟩, is, ks, ?_, ?_, HOB.out.below HD10.out.bel HD10.out.lo (Nat.le_refl _)⟩
                  · unfold decG
                    rw [HE.out]
                    rfl
                  · unfold decV
                    rw [if_pos HE.out, HDD.out]
                    have hP := H10.out.pass HOB.out (Array.getElem?_eq_some_iff.1 H3.out.rn).1
                    exact ⟨H10.out.pf.leaf, hP.2.1.rc, hP.2.2.rc, H10.out.pf.li, H10.out.pf.lk, hP.1.its, hP.1.kds, by rw [H10.out.lens.1]; exact HLL.out.1, by rw [H10.out.lens.2]; exact HLL.out.2⟩
end Go.Proofs.YtbjfklgmbeaaoaaGreat
