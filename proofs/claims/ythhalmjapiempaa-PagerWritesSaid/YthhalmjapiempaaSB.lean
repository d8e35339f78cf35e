/- The document's disk: rows of ops, and Run. -/
import Derived.Test.YthhalmjapiempaaSA
set_option linter.unusedVariables false
set_option linter.unusedSimpArgs false
namespace Go.Proofs.Ythhalmjapiempaa
open Go.RowKit

def op5 (p : (Int × Int × Option Addr × Nat × Nat)) : List Value := [.int .i64 p.1, .int .i64 p.2.1, .int .i64 0, .slice p.2.2.1 p.2.2.2.1 p.2.2.2.2, .slice none 0 0]
def ov (qs : List (Int × Int × Option Addr × Nat × Nat)) : List Value := qs.flatMap op5
theorem ov_cons (p : (Int × Int × Option Addr × Nat × Nat)) (r : List (Int × Int × Option Addr × Nat × Nat)) : ov (p :: r) = op5 p ++ ov r := rfl
theorem ov_append (a b : List (Int × Int × Option Addr × Nat × Nat)) : ov (a ++ b) = ov a ++ ov b := by simp [ov]
theorem ov_len (qs : List (Int × Int × Option Addr × Nat × Nat)) : (ov qs).length = qs.length * 5 := by
  induction qs with
  | nil => rfl
  | cons p r ih => rw [ov_cons, List.length_append, ih, List.length_cons]; show 5 + _ = _; omega
theorem ov_one (qs : List (Int × Int × Option Addr × Nat × Nat)) : ∀ v, v ∈ ov qs → v.oneCell' = true := by
  induction qs with
  | nil => exact fun v h => by cases h
  | cons p r ih =>
    intro v h
    rw [ov_cons] at h
    rcases List.mem_append.1 h with h | h
    · simp only [op5, List.mem_cons, List.not_mem_nil, or_false] at h
      rcases h with rfl | rfl | rfl | rfl | rfl <;> rfl
    · exact ih v h
theorem ov_at : ∀ (qs : List (Int × Int × Option Addr × Nat × Nat)) (j : Nat) (p : (Int × Int × Option Addr × Nat × Nat)) (i : Nat), qs[j]? = some p → i < 5 → (ov qs)[j * 5 + i]? = (op5 p)[i]?
  | [], j, p, i, h, _ => by simp at h
  | q :: r, 0, p, i, h, hi => by
    injection h with h; subst h
    rw [ov_cons, List.getElem?_append_left (by show 0 * 5 + i < 5; omega), Nat.zero_mul, Nat.zero_add]
  | q :: r, j + 1, p, i, h, hi => by
    rw [ov_cons, List.getElem?_append_right (by show 5 ≤ _; omega), show (j + 1) * 5 + i - (op5 q).length = j * 5 + i by show _ - 5 = _; omega]
    exact ov_at r j p i (by simpa using h) hi
theorem Rc.five1 {w : World} {ad : Addr} {n c : Nat} {qs : List (Int × Int × Option Addr × Nat × Nat)} (h : Rc w 5 (some ad) n c (ov qs)) (hn : 0 < n) (j : Nat) (p : (Int × Int × Option Addr × Nat × Nat)) (hp : qs[j]? = some p) :
    w.cell? (ad.add (j * 5)) = some (.int .i64 p.1) ∧ w.cell? ⟨(ad.add (j * 5)).block, (ad.add (j * 5)).off + 1, none⟩ = some (.int .i64 p.2.1) ∧ w.cell? ⟨(ad.add (j * 5)).block, (ad.add (j * 5)).off + 2, none⟩ = some (.int .i64 0) ∧ w.cell? ⟨(ad.add (j * 5)).block, (ad.add (j * 5)).off + 3, none⟩ = some (.slice p.2.2.1 p.2.2.2.1 p.2.2.2.2) ∧ w.cell? ⟨(ad.add (j * 5)).block, (ad.add (j * 5)).off + 4, none⟩ = some (.slice none 0 0) := by
  obtain ⟨ad', e, hx⟩ := h.cells hn
  injection e with e
  subst e
  have key : ∀ i v, i < 5 → (op5 p)[i]? = some v → w.cell? (ad.add (j * 5 + i)) = some v := fun i v hi hv => hx _ _ (by rw [ov_at qs j _ i hp hi]; exact hv)
  have k2 : ∀ i v, 0 < i → i < 5 → (op5 p)[i]? = some v → w.cell? ⟨(ad.add (j * 5)).block, (ad.add (j * 5)).off + i, none⟩ = some v := fun i v h0 hi hv => by
    have := key i v hi hv
    rw [← add_add] at this
    obtain ⟨b, o, s⟩ := ad
    have e0 : ∀ a : Addr, a.add i = ⟨a.block, a.off + i, none⟩ := fun a => by unfold Addr.add; rw [if_neg (by omega)]
    rw [e0] at this
    exact this
  exact ⟨key 0 _ (by omega) rfl, k2 1 _ (by omega) (by omega) rfl, k2 2 _ (by omega) (by omega) rfl, k2 3 _ (by omega) (by omega) rfl, k2 4 _ (by omega) (by omega) rfl⟩
theorem Rc.five {w : World} {A : Option Addr} {n c : Nat} {qs : List (Int × Int × Option Addr × Nat × Nat)} (h : Rc w 5 A n c (ov qs)) (hl : qs.length = n) (j : Nat) (hj : j < n) :
    ∃ ad p, A = some ad ∧ qs[j]? = some p := by
  obtain ⟨ad, e, hx⟩ := h.cells (by omega)
  exact ⟨ad, _, e, List.getElem?_eq_getElem (by omega)⟩
/-- One op: its ending and the disk behind it. -/
def doE (d : DV) (q : (Int × Int × List UInt8)) : Int := if q.1 = 0 then growE d q.2.1 else if q.1 = 2 then writeE d q.2.1 q.2.2 else syncE d
def doD (d : DV) (q : (Int × Int × List UInt8)) : DV := if q.1 = 0 then growD d q.2.1 else if q.1 = 2 then writeD d q.2.1 q.2.2 else syncD d
def rst (s : Int × DV) (q : (Int × Int × List UInt8)) : Int × DV := if s.1 = 0 then (doE s.2 q, doD s.2 q) else s
def runS (d : DV) (ls : List (Int × Int × List UInt8)) : Int × DV := ls.foldl rst (0, d)
theorem rst_stop (s : Int × DV) (h : s.1 ≠ 0) (ls : List (Int × Int × List UInt8)) : ls.foldl rst s = s := by
  induction ls with
  | nil => rfl
  | cons p r ih => rw [List.foldl_cons, show rst s p = s from if_neg h]; exact ih
def QK (p : (Int × Int × Option Addr × Nat × Nat)) (q : (Int × Int × List UInt8)) : Prop := p.1 = q.1 ∧ p.2.1 = q.2.1 ∧ -1000000000 ≤ q.2.1 ∧ q.2.1 ≤ 1000000000 ∧ ((q.1 = 0 ∧ p.2.2 = (none, 0, 0)) ∨ q.1 = 2 ∨ (q.1 = 3 ∧ q.2.1 = 0 ∧ p.2.2 = (none, 0, 0)))
/-- Headers that hold a row of ops. -/
structure QL (W : World) (qs : List (Int × Int × Option Addr × Nat × Nat)) (ls : List (Int × Int × List UInt8)) : Prop where
  len : qs.length = ls.length
  each : ∀ (j : Nat) (p : (Int × Int × Option Addr × Nat × Nat)), qs[j]? = some p → ∃ q : (Int × Int × List UInt8), ls[j]? = some q ∧ QK p q ∧ Bs W p.2.2.1 p.2.2.2.1 p.2.2.2.2 q.2.2
theorem QL.below {W W1 : World} {qs : List (Int × Int × Option Addr × Nat × Nat)} {ls : List (Int × Int × List UInt8)} (h : QL W qs ls) (hB : Below W.heap.size W W1) : QL W1 qs ls :=
  ⟨h.len, fun j p hj => by obtain ⟨q, a, b, c⟩ := h.each j p hj; exact ⟨q, a, b, c.below hB⟩⟩
/-- Bounds of a disk that Run wants. -/
structure RB (d : DV) (rl : Nat) (op : Int) : Prop where
  ok : d.ok (nD d)
  lim : (nD d : Int) ≤ d.limit
  ab : AB d rl op
theorem writeD_nL (d : DV) (a : Int) (b : List UInt8) : nD (writeD d a b) = nD d ∧ (writeD d a b).limit = d.limit := by
  unfold writeD
  split <;> exact ⟨rfl, rfl⟩
theorem syncD_lim (d : DV) : (syncD d).limit = d.limit := by
  unfold syncD
  split
  · rfl
  · split <;> rfl
theorem growD_lim (d : DV) (k : Int) : (growD d k).limit = d.limit := by
  unfold growD
  split <;> rfl
theorem RB.next {d : DV} {rl : Nat} {op : Int} (h : RB d rl op) (q : (Int × Int × List UInt8)) : RB (doD d q) (rl + q.2.2.length) (op + 1) ∧ (doD d q).limit = d.limit := by
  unfold doD
  split
  · have hk := growD_ok h.ok q.2.1
    have hl := growD_lim d q.2.1
    refine ⟨⟨hk.1, ?_, (h.ab.grow _).up (by omega) (by omega)⟩, hl⟩
    rw [hk.2, hl]
    have h1 := h.lim
    split
    · rename_i he
      unfold growE at he
      split at he
      · omega
      · split at he
        · omega
        · omega
    · exact h1
  · split
    · have hw := writeD_nL d q.2.1 q.2.2
      exact ⟨⟨writeD_ok h.ok _ _, by rw [hw.1, hw.2]; exact h.lim, h.ab.write _ _⟩, hw.2⟩
    · have hs := syncD_ok h.ok
      exact ⟨⟨hs.1, by rw [hs.2, syncD_lim]; exact h.lim, h.ab.sync.up (by omega) (by omega)⟩, syncD_lim d⟩
theorem rdo_any (A : Option Addr) (n c : Nat) (B : Option Addr) (m e : Nat) (hs : List (Int × Option Addr × Nat × Nat)) (d : DV) (w : World) (h : RM w A n c B m e hs d) (rl : Nat) (op : Int) (hb : RB d rl op) (p : (Int × Int × Option Addr × Nat × Nat)) (q : (Int × Int × List UInt8)) (hq : QK p q) (hB : Bs w p.2.2.1 p.2.2.2.1 p.2.2.2.2 q.2.2) (hrl : rl + q.2.2.length ≤ 1000000) (hop : op ≤ 1000000) :
    Calls Try.prog 22 #[.agg (rv d A n c B m e), .agg #[.int .i64 p.1, .int .i64 p.2.1, .int .i64 0, .slice p.2.2.1 p.2.2.2.1 p.2.2.2.2, .slice none 0 0]] w (RDo (doD d q) (doE d q) w) := by
  have hn : n ≤ 100000000 := by
    have h1 := h.bl.len; have h2 := hb.ok.len; have h3 := hb.lim; have h4 := hb.ok.lim; omega
  obtain ⟨k, a, K, kn, kc⟩ := p
  obtain ⟨k', a', b⟩ := q
  obtain ⟨e1, e2, b1, b2, hk⟩ := hq
  simp only at e1 e2 b1 b2 hk hB hrl
  subst e1 e2
  have ab := hb.ab
  have hkl := hB.len
  rcases hk with ⟨rfl, hz⟩ | rfl | ⟨rfl, rfl, hz⟩
  · injection hz with z1 hz
    injection hz with z2 z3
    subst z1 z2 z3
    exact rgrow_any A n c B m e hs d a w h hb.ok hn ab.fu ⟨ab.o0, by have := ab.o1; omega⟩
  · exact rdow_any A n c B m e hs d a K kn kc b w h hb.ok hn ab.fu ⟨ab.o0, by have := ab.o1; omega⟩ hB (by have := ab.rl; omega) ⟨b1, b2⟩
  · injection hz with z1 hz
    injection hz with z2 z3
    subst z1 z2 z3
    exact rsync_any A n c B m e hs d w h hb.ok hn ab.fu ⟨ab.o0, by have := ab.o1; omega⟩

/-- The cells that a round of Run reads. -/
def SRn (N : Nat) (Aj : Option Addr) (nj cj : Nat) (Bj : Option Addr) (mj ej : Nat) (dj : DV) (ad : Addr) (k a : Int) (K : Option Addr) (kn kc : Nat) (w' : World) : Prop := (w'.cell? ⟨N, 0, none⟩ = some (.int .i64 dj.limit) ∧ w'.cell? ⟨N, 1, none⟩ = some (.slice Aj nj cj) ∧ w'.cell? ⟨N, 2, none⟩ = some (.slice Bj mj ej) ∧ w'.cell? ⟨N, 3, none⟩ = some (.int .i64 dj.ops) ∧ w'.cell? ⟨N, 4, none⟩ = some (.int .i64 dj.fuse) ∧ w'.cell? ⟨N, 5, none⟩ = some (.bool dj.down)) ∧ w'.cell? ad = some (.int .i64 k) ∧ w'.cell? ⟨ad.block, ad.off + 1, none⟩ = some (.int .i64 a) ∧ w'.cell? ⟨ad.block, ad.off + 2, none⟩ = some (.int .i64 0) ∧ w'.cell? ⟨ad.block, ad.off + 3, none⟩ = some (.slice K kn kc) ∧ w'.cell? ⟨ad.block, ad.off + 4, none⟩ = some (.slice none 0 0)
theorem SRn.below {N : Nat} {Aj : Option Addr} {nj cj : Nat} {Bj : Option Addr} {mj ej : Nat} {dj : DV} {ad : Addr} {k a : Int} {K : Option Addr} {kn kc : Nat} {w w' : World} (h : SRn N Aj nj cj Bj mj ej dj ad k a K kn kc w) (hB : Below w.heap.size w w') : SRn N Aj nj cj Bj mj ej dj ad k a K kn kc w' := by
  obtain ⟨⟨a0, a1, a2, a3, a4, a5⟩, b0, b1, b2, b3, b4⟩ := h
  exact ⟨⟨cell_below hB a0, cell_below hB a1, cell_below hB a2, cell_below hB a3, cell_below hB a4, cell_below hB a5⟩, cell_below hB b0, cell_below hB b1, cell_below hB b2, cell_below hB b3, cell_below hB b4⟩
set_option maxHeartbeats 16000000 in
set_option maxRecDepth 100000 in
theorem rrun_any (A : Option Addr) (n c : Nat) (B : Option Addr) (m e : Nat) (hs : List (Int × Option Addr × Nat × Nat)) (d : DV) (w : World) (O : Option Addr) (on oc : Nat) (qs : List (Int × Int × Option Addr × Nat × Nat)) (ls : List (Int × Int × List UInt8)) (rl : Nat) (op : Int) (h : RM w A n c B m e hs d) (hb : RB d rl op) (hr : Rc w 5 O on oc (ov qs)) (hq : QL w qs ls) (hl : qs.length = on) (hrl : rl + (ls.map fun q => q.2.2.length).sum ≤ 1000000) (hop : op + on ≤ 1000000) :
    Calls Try.prog 24 #[.agg (rv d A n c B m e), .slice O on oc] w (RWr (runS d ls).2 (runS d ls).1 w) := by
  have hlim := hr.lim
  obtain ⟨bd, hbd⟩ : ∃ b : Obj, Obj.cells #[.int .i64 d.limit, .slice A n c, .slice B m e, .int .i64 d.ops, .int .i64 d.fuse, .bool d.down] 47 = b := ⟨_, rfl⟩
  have hB0 := below_two w bd (.cells #[.int .i64 0, .slice none 0 0, .slice none 0 0, .int .i64 0, .int .i64 0, .bool false] 47)
  have hr0 := (((Below.refl _ (w.alloc bd)).alloc (Nat.le_refl _) (.cells #[.int .i64 0, .slice none 0 0, .slice none 0 0, .int .i64 0, .int .i64 0, .bool false] 47)).block _ (by simp)).trans (heap_alloc_new w bd)
  have H0 := Aside0.mk (And.intro hr0 (And.intro (heap_two w bd (.cells #[.int .i64 0, .slice none 0 0, .slice none 0 0, .int .i64 0, .int .i64 0, .bool false] 47)) hB0))
  have HW := Aside0.mk (And.intro h (And.intro hr (And.intro hq hl)))
  have HB := Aside0.mk (And.intro hb (And.intro hrl hop))
  replace hbd := Aside0.mk hbd
  clear h hr hq hl hb hrl hop hB0 hr0
  show Calls Try.prog 24 #[.agg #[.int .i64 d.limit, .slice A n c, .slice B m e, .int .i64 d.ops, .int .i64 d.fuse, .bool d.down], .slice O on oc] w _
  go_enter Try.func24, Try.ntmps24
  go_upto_region 1 with fail
  rw [hbd.out]
  obtain ⟨w0, hw0⟩ : ∃ X, (w.alloc bd).alloc (.cells #[.int .i64 0, .slice none 0 0, .slice none 0 0, .int .i64 0, .int .i64 0, .bool false] 47) = X := ⟨_, rfl⟩
  obtain ⟨N1, hN1⟩ : ∃ X, w.heap.size + 1 = X := ⟨_, rfl⟩
  obtain ⟨N, hN⟩ : ∃ X, w.heap.size = X := ⟨_, rfl⟩
  rw [hw0, hN1, hN] at H0
  rw [hw0, hN1, hN]
  have hN' := Aside0.mk hN
  have hNN := Aside0.mk (show N < N1 by omega)
  clear hw0 hN1 hN
  have HSZ := Aside0.mk (show ∀ X : World, Below N w X → N ≤ X.heap.size from fun X hX => by rw [← hN'.out]; exact hX.size)
  have HT := Aside0.mk (show ∀ X : World, Below N w X → Rc X 5 O on oc (ov qs) ∧ QL X qs ls from fun X hX => by rw [← hN'.out] at hX; exact ⟨HW.out.2.1.below hX, HW.out.2.2.1.below hX⟩)
  have hrd := H0.out.1
  rw [← hbd.out] at hrd
  go_upto_region 2 with fail
  go_loopg [6] on (fun gk v6 wr => ∃ (j : Nat) (Aj : Option Addr) (nj cj : Nat) (Bj : Option Addr) (mj ej : Nat) (hsj : List (Int × Option Addr × Nat × Nat)) (dj : DV), Aside (gk + j = on) ∧ v6 = .int .i64 (j : Int) ∧ Aside0 (wr.heap[N]? = some (.cells #[.int .i64 dj.limit, .slice Aj nj cj, .slice Bj mj ej, .int .i64 dj.ops, .int .i64 dj.fuse, .bool dj.down] 47) ∧ wr.heap[N1]? = some (.cells #[.int .i64 0, .slice none 0 0, .slice none 0 0, .int .i64 0, .int .i64 0, .bool false] 47) ∧ RM wr Aj nj cj Bj mj ej hsj dj ∧ Below N w wr ∧ (ls.take j).foldl rst (0, d) = (0, dj) ∧ RB dj (rl + ((ls.take j).map fun q => q.2.2.length).sum) (op + j)))
  case atStart => exact ⟨0, A, n, c, B, m, e, hs, d, rfl, rfl, ⟨hrd, H0.out.2.1, HW.out.1.below (by rw [hN'.out]; exact H0.out.2.2), H0.out.2.2, rfl, by simpa using HB.out.1⟩⟩
  clear hrd
  case round =>
    obtain ⟨j, Aj, nj, cj, Bj, mj, ej, hsj, dj, hk, rfl, hI⟩ := hrel
    have hjp : j ≤ on := by have := hk.out; omega
    rcases Nat.lt_or_ge j on with hlt | hge
    · have g1 : decide ((j : Int) < (on : Int)) = true := decide_eq_true (by omega)
      have HLT := Aside0.mk hlt
      obtain ⟨ad, p, rfl, hp⟩ := (HT.out _ hI.out.2.2.2.1).1.five HW.out.2.2.2 j hlt
      obtain ⟨c0, c1, c2, c3, c4⟩ := (HT.out _ hI.out.2.2.2.1).1.five1 (by omega) j p hp
      obtain ⟨q, hq, hqk, hqb⟩ := (HT.out _ hI.out.2.2.2.1).2.each j p hp
      have hsum : rl + ((ls.take j).map fun q => q.2.2.length).sum + q.2.2.length ≤ 1000000 := by
        have h1 : ((ls.take (j + 1)).map fun q => q.2.2.length).sum ≤ (ls.map fun q => q.2.2.length).sum := by
          have h2 := congrArg (fun z : List (Int × Int × List UInt8) => (z.map fun q => q.2.2.length).sum) (List.take_append_drop (j + 1) ls)
          simp only [List.map_append, List.sum_append] at h2
          omega
        rw [List.take_add_one, hq, Option.toList_some, List.map_append, List.sum_append, List.map_singleton, List.sum_singleton] at h1
        have := HB.out.2.1
        omega
      have hnx := hI.out.2.2.2.2.2.next q
      obtain ⟨k, a, K, kn, kc⟩ := p
      simp only at hqk hqb c0 c1 c2 c3 c4
      have HP := Aside0.mk hp
      have HQ := Aside0.mk (And.intro hq (And.intro hqk (And.intro hsum hnx)))
      have hbd2 : Below wr.heap.size wr wr.drew := below_drew (Below.refl _ _)
      have HD := Aside0.mk (And.intro ((hbd2.block _ (Array.getElem?_eq_some_iff.1 hI.out.1).1).trans hI.out.1) (And.intro ((hbd2.block _ (Array.getElem?_eq_some_iff.1 hI.out.2.1).1).trans hI.out.2.1) (And.intro (hI.out.2.2.1.below hbd2) (And.intro (below_then hI.out.2.2.2.1 (HSZ.out _ hI.out.2.2.2.1) hbd2) (hqb.below hbd2)))))
      have HS := Aside0.mk (show SRn N Aj nj cj Bj mj ej dj (ad.add (j * 5)) k a K kn kc wr.drew from (show SRn N Aj nj cj Bj mj ej dj (ad.add (j * 5)) k a K kn kc wr from ⟨row6_cells hI.out.1, c0, c1, c2, c3, c4⟩).below hbd2)
      clear hq hqk hsum hnx hqb hp c0 c1 c2 c3 c4 hbd2
      obtain ⟨wd, hwd⟩ : ∃ X, wr.drew = X := ⟨_, rfl⟩
      rw [hwd] at HD HS
      go_upto_region 4 with fail
      refine wp_region_M (fun j => decide (j < 14)) (SRn N Aj nj cj Bj mj ej dj (ad.add (j * 5)) k a K kn kc) (by kernel_rfl) ?_
      rw [hwd]
      clear hwd
      refine wpAnyM_take (i := 0) (v := ?_) (by simp only [List.getElem?_toArray, List.getElem?_cons_succ, List.getElem?_cons_zero]; rfl) (by kernel_rfl) (by kernel_rfl) (by kernel_rfl) (by kernel_rfl) (by exact fun _ _ _ h => h) (Or.inl ⟨by rfl, ?_⟩) HS.out ?_
      rotate_left
      · (intro w' hSw; (unfold SRn at hSw); go_simp; try with_reducible rfl)
      try simp only [Act.put, List.setIfInBounds_toArray, List.set_cons_zero, List.set_cons_succ]
      refine wpAnyM_take (i := 1) (v := ?_) (by simp only [List.getElem?_toArray, List.getElem?_cons_succ, List.getElem?_cons_zero]; rfl) (by kernel_rfl) (by kernel_rfl) (by kernel_rfl) (by kernel_rfl) (by exact fun _ _ _ h => h) (Or.inl ⟨by rfl, ?_⟩) HS.out ?_
      rotate_left
      · (intro w' hSw; (unfold SRn at hSw); go_simp; try with_reducible rfl)
      try simp only [Act.put, List.setIfInBounds_toArray, List.set_cons_zero, List.set_cons_succ]
      refine wpAnyM_take (i := 2) (v := ?_) (by simp only [List.getElem?_toArray, List.getElem?_cons_succ, List.getElem?_cons_zero]; rfl) (by kernel_rfl) (by kernel_rfl) (by kernel_rfl) (by kernel_rfl) (by exact fun _ _ _ h => h) (Or.inl ⟨by rfl, ?_⟩) HS.out ?_
      rotate_left
      · (intro w' hSw; (unfold SRn at hSw); go_simp; try with_reducible rfl)
      try simp only [Act.put, List.setIfInBounds_toArray, List.set_cons_zero, List.set_cons_succ]
      refine wpAnyM_take (i := 3) (v := ?_) (by simp only [List.getElem?_toArray, List.getElem?_cons_succ, List.getElem?_cons_zero]; rfl) (by kernel_rfl) (by kernel_rfl) (by kernel_rfl) (by kernel_rfl) (by exact fun _ _ _ h => h) (Or.inl ⟨by rfl, ?_⟩) HS.out ?_
      rotate_left
      · (intro w' hSw; (unfold SRn at hSw); go_simp; try with_reducible rfl)
      try simp only [Act.put, List.setIfInBounds_toArray, List.set_cons_zero, List.set_cons_succ]
      refine wpAnyM_take (i := 4) (v := ?_) (by simp only [List.getElem?_toArray, List.getElem?_cons_succ, List.getElem?_cons_zero]; rfl) (by kernel_rfl) (by kernel_rfl) (by kernel_rfl) (by kernel_rfl) (by exact fun _ _ _ h => h) (Or.inl ⟨by rfl, ?_⟩) HS.out ?_
      rotate_left
      · (intro w' hSw; (unfold SRn at hSw); go_simp; try with_reducible rfl)
      try simp only [Act.put, List.setIfInBounds_toArray, List.set_cons_zero, List.set_cons_succ]
      refine wpAnyM_pair (i := 5) (k := 10) (by kernel_rfl) (by simp only [List.getElem?_toArray, List.getElem?_cons_succ, List.getElem?_cons_zero]; rfl) (by simp only [List.getElem?_toArray, List.getElem?_cons_succ, List.getElem?_cons_zero]; rfl) ?_ ?_
      · skip
        have cD := rdo_any Aj nj cj Bj mj ej hsj dj wd (HD.out.2.2.1) _ _ hI.out.2.2.2.2.2 (k, a, K, kn, kc) q HQ.out.2.1 (HD.out.2.2.2.2) HQ.out.2.2.1 (by have := HB.out.2.2; have := HLT.out; omega)
        obtain ⟨dn, hdn⟩ : ∃ x, doD dj q = x := ⟨_, rfl⟩
        obtain ⟨er, her⟩ : ∃ x, doE dj q = x := ⟨_, rfl⟩
        rw [hdn, her] at cD
        have HDN := Aside0.mk (And.intro hdn her)
        clear hdn her
        unfold rv at cD
        go_wp2_with (go_at_call 22; refine cD.mono ?_; rintro e' w5 ⟨An, nn, cn, Bn, mn, en, hsn, rfl, hR, hB⟩; unfold rv; (have H5 := Aside0.mk (And.intro hR hB)); clear hR hB)
        have HS5 := Aside0.mk (HS.out.below H5.out.2)
        refine ⟨HS5.out, ?_⟩
        try simp only [Act.put, List.setIfInBounds_toArray, List.set_cons_zero, List.set_cons_succ]
        refine wpAnyM_take (i := 6) (v := ?_) (by simp only [List.getElem?_toArray, List.getElem?_cons_succ, List.getElem?_cons_zero]; rfl) (by kernel_rfl) (by kernel_rfl) (by kernel_rfl) (by kernel_rfl) (by exact fun _ _ _ h => h) (Or.inl ⟨by rfl, ?_⟩) HS5.out ?_
        rotate_left
        · (intro w' hSw; (unfold SRn at hSw); go_simp; try with_reducible rfl)
        try simp only [Act.put, List.setIfInBounds_toArray, List.set_cons_zero, List.set_cons_succ]
        refine wpAnyM_take (i := 7) (v := ?_) (by simp only [List.getElem?_toArray, List.getElem?_cons_succ, List.getElem?_cons_zero]; rfl) (by kernel_rfl) (by kernel_rfl) (by kernel_rfl) (by kernel_rfl) (by exact fun _ _ _ h => h) (Or.inl ⟨by rfl, ?_⟩) HS5.out ?_
        rotate_left
        · (intro w' hSw; (unfold SRn at hSw); go_simp; try with_reducible rfl)
        try simp only [Act.put, List.setIfInBounds_toArray, List.set_cons_zero, List.set_cons_succ]
        refine wpAnyM_take (i := 8) (v := ?_) (by simp only [List.getElem?_toArray, List.getElem?_cons_succ, List.getElem?_cons_zero]; rfl) (by kernel_rfl) (by kernel_rfl) (by kernel_rfl) (by kernel_rfl) (by exact fun _ _ _ h => h) (Or.inl ⟨by rfl, ?_⟩) HS5.out ?_
        rotate_left
        · (intro w' hSw; (unfold SRn at hSw); go_simp; try with_reducible rfl)
        try simp only [Act.put, List.setIfInBounds_toArray, List.set_cons_zero, List.set_cons_succ]
        refine wpAnyM_take (i := 9) (v := ?_) (by simp only [List.getElem?_toArray, List.getElem?_cons_succ, List.getElem?_cons_zero]; rfl) (by kernel_rfl) (by kernel_rfl) (by kernel_rfl) (by kernel_rfl) (by exact fun _ _ _ h => h) (Or.inl ⟨by rfl, ?_⟩) HS5.out ?_
        rotate_left
        · (intro w' hSw; (unfold SRn at hSw); go_simp; try with_reducible rfl)
        try simp only [Act.put, List.setIfInBounds_toArray, List.set_cons_zero, List.set_cons_succ]
        have hBz := (Below.refl _ w5).alloc (Nat.le_refl _) (.cells #[.int .i64 0, .slice none 0 0, .slice none 0 0, .int .i64 0, .int .i64 0, .bool false] 47)
        have hBB := below_then H5.out.2 H5.out.2.size hBz
        have HE := Aside0.mk (And.intro ((hBB.block _ (Array.getElem?_eq_some_iff.1 HD.out.1).1).trans HD.out.1) (And.intro ((hBB.block _ (Array.getElem?_eq_some_iff.1 HD.out.2.1).1).trans HD.out.2.1) (And.intro (heap_alloc_new w5 (.cells #[.int .i64 0, .slice none 0 0, .slice none 0 0, .int .i64 0, .int .i64 0, .bool false] 47)) (And.intro (H5.out.1.below hBz) (And.intro (below_then HD.out.2.2.2.1 (HSZ.out _ HD.out.2.2.2.1) hBB) (show N1 < w5.heap.size from Nat.lt_of_lt_of_le (Array.getElem?_eq_some_iff.1 HD.out.2.1).1 H5.out.2.size))))))
        have HS6 := Aside0.mk (HS5.out.below hBz)
        clear hBz hBB
        refine wpAnyM_one (i := 10) (by kernel_rfl) (by simp only [List.getElem?_toArray, List.getElem?_cons_succ, List.getElem?_cons_zero]; rfl) ?_
        go_wp2_with fail
        refine ⟨HS6.out, ?_⟩
        obtain ⟨w6, hw6⟩ : ∃ X, w5.alloc (.cells #[.int .i64 0, .slice none 0 0, .slice none 0 0, .int .i64 0, .int .i64 0, .bool false] 47) = X := ⟨_, rfl⟩
        obtain ⟨M, hM⟩ : ∃ X, w5.heap.size = X := ⟨_, rfl⟩
        rw [hw6, hM] at HE
        rw [hw6] at HS6
        rw [hw6, hM]
        clear hw6 hM
        try simp only [Act.put, List.setIfInBounds_toArray, List.set_cons_zero, List.set_cons_succ]
        have hO3 := only_set6 (W := w6) (g := M) (.int .i64 dn.limit) (.slice An nn cn) (.slice Bn mn en) (.int .i64 dn.ops) (.int .i64 dn.fuse) (.bool dn.down)
        have hrM := row6_set (.int .i64 dn.limit) (.slice An nn cn) (.slice Bn mn en) (.int .i64 dn.ops) (.int .i64 dn.fuse) (.bool dn.down) HE.out.2.2.1
        have hR3 := RM.stay6 HE.out.2.2.1 HE.out.2.2.2.1 hO3 (fun q _ _ => by decide)
        have hB3 := below_only HE.out.2.2.2.2.1 hO3 (Nat.le_of_lt (Nat.lt_trans hNN.out HE.out.2.2.2.2.2)) (HSZ.out _ HE.out.2.2.2.2.1)
        have hN3 := (hO3.block _ (Array.getElem?_eq_some_iff.1 HE.out.1).1 (by have := HE.out.2.2.2.2.2; have := hNN.out; omega)).trans HE.out.1
        have hN13 := (hO3.block _ (Array.getElem?_eq_some_iff.1 HE.out.2.1).1 (by have := HE.out.2.2.2.2.2; omega)).trans HE.out.2.1
        have HS7 := Aside0.mk (show SRn N Aj nj cj Bj mj ej dj (ad.add (j * 5)) k a K kn kc _ from ⟨row6_cells hN3, (HT.out _ hB3).1.five1 (by omega) j _ HP.out⟩)
        have HF := Aside0.mk (And.intro hN3 (And.intro hN13 (And.intro hrM (And.intro hR3 hB3))))
        obtain ⟨z0, z1, z2, z3, z4, z5⟩ := row6_cells HE.out.2.2.1
        have yM := fun j => Go.Joins.unfrozen_of_block HE.out.2.2.1 j
        clear hO3 hrM hR3 hB3 hN3 hN13
        refine wpAnyM_one (i := 11) (by kernel_rfl) (by simp only [List.getElem?_toArray, List.getElem?_cons_succ, List.getElem?_cons_zero]; rfl) ?_
        go_wp2_with fail
        refine ⟨HS7.out, ?_⟩
        obtain ⟨w7, hw7⟩ : ∃ X, ((((((w6.setCell ⟨M, 0, none⟩ (.int .i64 dn.limit)).setCell ⟨M, 1, none⟩ (.slice An nn cn)).setCell ⟨M, 2, none⟩ (.slice Bn mn en)).setCell ⟨M, 3, none⟩ (.int .i64 dn.ops)).setCell ⟨M, 4, none⟩ (.int .i64 dn.fuse)).setCell ⟨M, 5, none⟩ (.bool dn.down)) = X := ⟨_, rfl⟩
        rw [hw7] at HF HS7 ⊢
        clear hw7 z0 z1 z2 z3 z4 z5 yM
        try simp only [Act.put, List.setIfInBounds_toArray, List.set_cons_zero, List.set_cons_succ]
        refine wpAnyM_take (i := 12) (v := ?_) (by simp only [List.getElem?_toArray, List.getElem?_cons_succ, List.getElem?_cons_zero]; rfl) (by kernel_rfl) (by kernel_rfl) (by kernel_rfl) (by kernel_rfl) (by exact fun _ _ _ h => h) (Or.inl ⟨by rfl, ?_⟩) HS7.out ?_
        rotate_left
        · (intro w' hSw; (try dsimp only at hSw); go_simp; try with_reducible rfl)
        try simp only [Act.put, List.setIfInBounds_toArray, List.set_cons_zero, List.set_cons_succ]
        refine wpAnyM_take (i := 13) (v := ?_) (by simp only [List.getElem?_toArray, List.getElem?_cons_succ, List.getElem?_cons_zero]; rfl) (by kernel_rfl) (by kernel_rfl) (by kernel_rfl) (by kernel_rfl) (by exact fun _ _ _ h => h) (Or.inl ⟨by rfl, ?_⟩) HS7.out ?_
        rotate_left
        · (intro w' hSw; (try dsimp only at hSw); go_simp; try with_reducible rfl)
        try simp only [Act.put, List.setIfInBounds_toArray, List.set_cons_zero, List.set_cons_succ]
        refine wpAnyM_done (by kernel_rfl) ?_ _
        obtain ⟨x0, x1, x2, x3, x4, x5⟩ := row6_cells HF.out.2.2.1
        have yN := fun j => Go.Joins.unfrozen_of_block HF.out.1 j
        obtain ⟨y0, y1, y2, y3, y4, y5⟩ := row6_cells HF.out.1
        go_upto_region 6 with fail
        have hO4 := only_set6 (W := w7) (g := N) (.int .i64 dn.limit) (.slice An nn cn) (.slice Bn mn en) (.int .i64 dn.ops) (.int .i64 dn.fuse) (.bool dn.down)
        have hrN := row6_set (.int .i64 dn.limit) (.slice An nn cn) (.slice Bn mn en) (.int .i64 dn.ops) (.int .i64 dn.fuse) (.bool dn.down) HF.out.1
        have hlim9 : dn.limit = dj.limit := by rw [← HDN.out.1]; exact HQ.out.2.2.2.2
        have hRB9 := HQ.out.2.2.2.1
        rw [HDN.out.1] at hRB9
        have hR4 := RM.stay6 HF.out.1 HF.out.2.2.2.1 hO4 (fun q hq9 hL => by
          have h1 := (hRB9.ok.each q hq9).2
          have h2 := hRB9.lim
          omega)
        have hB4 := below_only HF.out.2.2.2.2 hO4 (Nat.le_refl _) (HSZ.out _ HF.out.2.2.2.2)
        have hN14 := (hO4.block _ (Array.getElem?_eq_some_iff.1 HF.out.2.1).1 (by have := hNN.out; omega)).trans HF.out.2.1
        have HG := Aside0.mk (And.intro hrN (And.intro hN14 (And.intro hR4 (And.intro hB4 hRB9))))
        obtain ⟨w8, hw8⟩ : ∃ X, ((((((w7.setCell ⟨N, 0, none⟩ (.int .i64 dn.limit)).setCell ⟨N, 1, none⟩ (.slice An nn cn)).setCell ⟨N, 2, none⟩ (.slice Bn mn en)).setCell ⟨N, 3, none⟩ (.int .i64 dn.ops)).setCell ⟨N, 4, none⟩ (.int .i64 dn.fuse)).setCell ⟨N, 5, none⟩ (.bool dn.down)) = X := ⟨_, rfl⟩
        rw [hw8] at HG ⊢
        clear hw8 x0 x1 x2 x3 x4 x5 y0 y1 y2 y3 y4 y5 yN hO4 hrN hR4 hB4 hN14 hlim9 hRB9
        by_cases qe : er = 0
        · have ge : (er != 0) = false := by rw [qe]; rfl
          have HER := Aside0.mk qe
          clear qe
          go_wp2_with fail
          go_roundg (on - (j + 1))
          case measure => exact (show on - (j + 1) < gk by have := hk.out; have := HLT.out; omega)
          case rel =>
            refine ⟨j + 1, An, nn, cn, Bn, mn, en, hsn, dn, (by have := HLT.out; exact (show on - (j + 1) + (j + 1) = on by omega)), by go_num, ⟨HG.out.1, HG.out.2.1, HG.out.2.2.1, HG.out.2.2.2.1, ?_, ?_⟩⟩
            · rw [List.take_add_one, HQ.out.1, Option.toList_some, List.foldl_append, hI.out.2.2.2.2.1]
              show rst (0, dj) q = _
              unfold rst
              rw [if_pos rfl, HDN.out.1, HDN.out.2, HER.out]
            · have h9 := HG.out.2.2.2.2
              rw [List.take_add_one, HQ.out.1, Option.toList_some, List.map_append, List.sum_append, List.map_singleton, List.sum_singleton, ← Nat.add_assoc]
              exact ⟨h9.ok, h9.lim, h9.ab.up (Nat.le_refl _) (by push_cast; omega)⟩
        · have ge : (er != 0) = true := bne_iff_ne.2 qe
          have HER := Aside0.mk qe
          clear qe
          obtain ⟨x0, x1, x2, x3, x4, x5⟩ := row6_cells HG.out.1
          obtain ⟨z0, z1, z2, z3, z4, z5⟩ := row6_cells HG.out.2.1
          have yf := fun j => Go.Joins.unfrozen_of_block HG.out.2.1 j
          have HDL := Aside0.mk (dload (row6_set (.int .i64 dn.limit) (.slice An nn cn) (.slice Bn mn en) (.int .i64 dn.ops) (.int .i64 dn.fuse) (.bool dn.down) HG.out.2.1))
          go_wp2_with fail
          have hD := HDL.out
          refine bodyPost_ret (v := .tuple #[.agg #[.int .i64 dn.limit, .slice An nn cn, .slice Bn mn en, .int .i64 dn.ops, .int .i64 dn.fuse, .bool dn.down], .int .i64 er]) (by simp [results, Try.results24, asAddr, hD]) rfl ?_
          have hO5 := only_set6 (W := w8) (g := N1) (.int .i64 dn.limit) (.slice An nn cn) (.slice Bn mn en) (.int .i64 dn.ops) (.int .i64 dn.fuse) (.bool dn.down)
          have hB5 := below_only HG.out.2.2.2.1 hO5 (Nat.le_of_lt hNN.out) (HSZ.out _ HG.out.2.2.2.1)
          have hfin : runS d ls = (er, dn) := by
            have e1 : ls = ls.take j ++ (q :: ls.drop (j + 1)) := by
              have h1 := HQ.out.1
              obtain ⟨hjl, hje⟩ := List.getElem?_eq_some_iff.1 h1
              rw [← hje, ← List.drop_eq_getElem_cons hjl, List.take_append_drop]
            unfold runS
            rw [e1, List.foldl_append, hI.out.2.2.2.2.1, List.foldl_cons, show rst (0, dj) q = (er, dn) by unfold rst; rw [if_pos rfl, HDN.out.1, HDN.out.2]]
            exact rst_stop _ HER.out _
          rw [hfin]
          exact ⟨An, nn, cn, Bn, mn, en, hsn, rfl, RM.stay6 HG.out.2.1 HG.out.2.2.1 hO5 (fun q _ _ => by decide), by rw [hN'.out]; exact hB5⟩
      · skip
        have hBz := (Below.refl _ wd).alloc (Nat.le_refl _) (.cells #[.int .i64 0, .slice none 0 0, .slice none 0 0, .int .i64 0, .int .i64 0, .bool false] 47)
        have HA := Aside0.mk (And.intro ((hBz.block _ (Array.getElem?_eq_some_iff.1 HD.out.1).1).trans HD.out.1) (And.intro ((hBz.block _ (Array.getElem?_eq_some_iff.1 HD.out.2.1).1).trans HD.out.2.1) (And.intro (heap_alloc_new wd (.cells #[.int .i64 0, .slice none 0 0, .slice none 0 0, .int .i64 0, .int .i64 0, .bool false] 47)) (And.intro (HD.out.2.2.1.below hBz) (And.intro (below_then HD.out.2.2.2.1 (HSZ.out _ HD.out.2.2.2.1) hBz) (And.intro (Array.getElem?_eq_some_iff.1 HD.out.2.1).1 (HD.out.2.2.2.2.below hBz)))))))
        have HS5 := Aside0.mk (HS.out.below hBz)
        clear hBz
        go_wp2_with fail
        refine ⟨HS5.out, ?_⟩
        obtain ⟨w4, hw4⟩ : ∃ X, wd.alloc (.cells #[.int .i64 0, .slice none 0 0, .slice none 0 0, .int .i64 0, .int .i64 0, .bool false] 47) = X := ⟨_, rfl⟩
        obtain ⟨M, hM⟩ : ∃ X, wd.heap.size = X := ⟨_, rfl⟩
        rw [hw4, hM] at HA
        rw [hw4] at HS5
        rw [hw4, hM]
        clear hw4 hM
        try simp only [Act.put, List.setIfInBounds_toArray, List.set_cons_zero, List.set_cons_succ]
        have cD := rdo_any Aj nj cj Bj mj ej hsj dj w4 (HA.out.2.2.2.1) _ _ hI.out.2.2.2.2.2 (k, a, K, kn, kc) q HQ.out.2.1 (HA.out.2.2.2.2.2.2) HQ.out.2.2.1 (by have := HB.out.2.2; have := HLT.out; omega)
        obtain ⟨dn, hdn⟩ : ∃ x, doD dj q = x := ⟨_, rfl⟩
        obtain ⟨er, her⟩ : ∃ x, doE dj q = x := ⟨_, rfl⟩
        rw [hdn, her] at cD
        have HDN := Aside0.mk (And.intro hdn her)
        clear hdn her
        unfold rv at cD
        refine wpAnyM_one (i := 5) (by kernel_rfl) (by simp only [List.getElem?_toArray, List.getElem?_cons_succ, List.getElem?_cons_zero]; rfl) ?_
        go_wp2_with (go_at_call 22; refine cD.mono ?_; rintro e' w5 ⟨An, nn, cn, Bn, mn, en, hsn, rfl, hR, hB⟩; unfold rv; (have H5 := Aside0.mk (And.intro hR hB)); clear hR hB)
        have HE := Aside0.mk (And.intro ((H5.out.2.block _ (Array.getElem?_eq_some_iff.1 HA.out.1).1).trans HA.out.1) (And.intro ((H5.out.2.block _ (Array.getElem?_eq_some_iff.1 HA.out.2.1).1).trans HA.out.2.1) (And.intro ((H5.out.2.block _ (Array.getElem?_eq_some_iff.1 HA.out.2.2.1).1).trans HA.out.2.2.1) (And.intro H5.out.1 (And.intro (below_then HA.out.2.2.2.2.1 (HSZ.out _ HA.out.2.2.2.2.1) H5.out.2) HA.out.2.2.2.2.2.1)))))
        have HS6 := Aside0.mk (HS5.out.below H5.out.2)
        refine ⟨HS6.out, ?_⟩
        try simp only [Act.put, List.setIfInBounds_toArray, List.set_cons_zero, List.set_cons_succ]
        refine wpAnyM_take (i := 6) (v := ?_) (by simp only [List.getElem?_toArray, List.getElem?_cons_succ, List.getElem?_cons_zero]; rfl) (by kernel_rfl) (by kernel_rfl) (by kernel_rfl) (by kernel_rfl) (by exact fun _ _ _ h => h) (Or.inl ⟨by rfl, ?_⟩) HS6.out ?_
        rotate_left
        · (intro w' hSw; (unfold SRn at hSw); go_simp; try with_reducible rfl)
        try simp only [Act.put, List.setIfInBounds_toArray, List.set_cons_zero, List.set_cons_succ]
        refine wpAnyM_take (i := 7) (v := ?_) (by simp only [List.getElem?_toArray, List.getElem?_cons_succ, List.getElem?_cons_zero]; rfl) (by kernel_rfl) (by kernel_rfl) (by kernel_rfl) (by kernel_rfl) (by exact fun _ _ _ h => h) (Or.inl ⟨by rfl, ?_⟩) HS6.out ?_
        rotate_left
        · (intro w' hSw; (unfold SRn at hSw); go_simp; try with_reducible rfl)
        try simp only [Act.put, List.setIfInBounds_toArray, List.set_cons_zero, List.set_cons_succ]
        refine wpAnyM_take (i := 8) (v := ?_) (by simp only [List.getElem?_toArray, List.getElem?_cons_succ, List.getElem?_cons_zero]; rfl) (by kernel_rfl) (by kernel_rfl) (by kernel_rfl) (by kernel_rfl) (by exact fun _ _ _ h => h) (Or.inl ⟨by rfl, ?_⟩) HS6.out ?_
        rotate_left
        · (intro w' hSw; (unfold SRn at hSw); go_simp; try with_reducible rfl)
        try simp only [Act.put, List.setIfInBounds_toArray, List.set_cons_zero, List.set_cons_succ]
        refine wpAnyM_take (i := 9) (v := ?_) (by simp only [List.getElem?_toArray, List.getElem?_cons_succ, List.getElem?_cons_zero]; rfl) (by kernel_rfl) (by kernel_rfl) (by kernel_rfl) (by kernel_rfl) (by exact fun _ _ _ h => h) (Or.inl ⟨by rfl, ?_⟩) HS6.out ?_
        rotate_left
        · (intro w' hSw; (unfold SRn at hSw); go_simp; try with_reducible rfl)
        try simp only [Act.put, List.setIfInBounds_toArray, List.set_cons_zero, List.set_cons_succ]
        have hO3 := only_set6 (W := w5) (g := M) (.int .i64 dn.limit) (.slice An nn cn) (.slice Bn mn en) (.int .i64 dn.ops) (.int .i64 dn.fuse) (.bool dn.down)
        have hrM := row6_set (.int .i64 dn.limit) (.slice An nn cn) (.slice Bn mn en) (.int .i64 dn.ops) (.int .i64 dn.fuse) (.bool dn.down) HE.out.2.2.1
        have hR3 := RM.stay6 HE.out.2.2.1 HE.out.2.2.2.1 hO3 (fun q _ _ => by decide)
        have hB3 := below_only HE.out.2.2.2.2.1 hO3 (Nat.le_of_lt (Nat.lt_trans hNN.out HE.out.2.2.2.2.2)) (HSZ.out _ HE.out.2.2.2.2.1)
        have hN3 := (hO3.block _ (Array.getElem?_eq_some_iff.1 HE.out.1).1 (by have := HE.out.2.2.2.2.2; have := hNN.out; omega)).trans HE.out.1
        have hN13 := (hO3.block _ (Array.getElem?_eq_some_iff.1 HE.out.2.1).1 (by have := HE.out.2.2.2.2.2; omega)).trans HE.out.2.1
        have HS7 := Aside0.mk (show SRn N Aj nj cj Bj mj ej dj (ad.add (j * 5)) k a K kn kc _ from ⟨row6_cells hN3, (HT.out _ hB3).1.five1 (by omega) j _ HP.out⟩)
        have HF := Aside0.mk (And.intro hN3 (And.intro hN13 (And.intro hrM (And.intro hR3 hB3))))
        obtain ⟨z0, z1, z2, z3, z4, z5⟩ := row6_cells HE.out.2.2.1
        have yM := fun j => Go.Joins.unfrozen_of_block HE.out.2.2.1 j
        clear hO3 hrM hR3 hB3 hN3 hN13
        refine wpAnyM_one (i := 11) (by kernel_rfl) (by simp only [List.getElem?_toArray, List.getElem?_cons_succ, List.getElem?_cons_zero]; rfl) ?_
        go_wp2_with fail
        refine ⟨HS7.out, ?_⟩
        obtain ⟨w7, hw7⟩ : ∃ X, ((((((w5.setCell ⟨M, 0, none⟩ (.int .i64 dn.limit)).setCell ⟨M, 1, none⟩ (.slice An nn cn)).setCell ⟨M, 2, none⟩ (.slice Bn mn en)).setCell ⟨M, 3, none⟩ (.int .i64 dn.ops)).setCell ⟨M, 4, none⟩ (.int .i64 dn.fuse)).setCell ⟨M, 5, none⟩ (.bool dn.down)) = X := ⟨_, rfl⟩
        rw [hw7] at HF HS7 ⊢
        clear hw7 z0 z1 z2 z3 z4 z5 yM
        try simp only [Act.put, List.setIfInBounds_toArray, List.set_cons_zero, List.set_cons_succ]
        refine wpAnyM_take (i := 12) (v := ?_) (by simp only [List.getElem?_toArray, List.getElem?_cons_succ, List.getElem?_cons_zero]; rfl) (by kernel_rfl) (by kernel_rfl) (by kernel_rfl) (by kernel_rfl) (by exact fun _ _ _ h => h) (Or.inl ⟨by rfl, ?_⟩) HS7.out ?_
        rotate_left
        · (intro w' hSw; (try dsimp only at hSw); go_simp; try with_reducible rfl)
        try simp only [Act.put, List.setIfInBounds_toArray, List.set_cons_zero, List.set_cons_succ]
        refine wpAnyM_take (i := 13) (v := ?_) (by simp only [List.getElem?_toArray, List.getElem?_cons_succ, List.getElem?_cons_zero]; rfl) (by kernel_rfl) (by kernel_rfl) (by kernel_rfl) (by kernel_rfl) (by exact fun _ _ _ h => h) (Or.inl ⟨by rfl, ?_⟩) HS7.out ?_
        rotate_left
        · (intro w' hSw; (try dsimp only at hSw); go_simp; try with_reducible rfl)
        try simp only [Act.put, List.setIfInBounds_toArray, List.set_cons_zero, List.set_cons_succ]
        refine wpAnyM_done (by kernel_rfl) ?_ _
        obtain ⟨x0, x1, x2, x3, x4, x5⟩ := row6_cells HF.out.2.2.1
        have yN := fun j => Go.Joins.unfrozen_of_block HF.out.1 j
        obtain ⟨y0, y1, y2, y3, y4, y5⟩ := row6_cells HF.out.1
        go_upto_region 6 with fail
        have hO4 := only_set6 (W := w7) (g := N) (.int .i64 dn.limit) (.slice An nn cn) (.slice Bn mn en) (.int .i64 dn.ops) (.int .i64 dn.fuse) (.bool dn.down)
        have hrN := row6_set (.int .i64 dn.limit) (.slice An nn cn) (.slice Bn mn en) (.int .i64 dn.ops) (.int .i64 dn.fuse) (.bool dn.down) HF.out.1
        have hlim9 : dn.limit = dj.limit := by rw [← HDN.out.1]; exact HQ.out.2.2.2.2
        have hRB9 := HQ.out.2.2.2.1
        rw [HDN.out.1] at hRB9
        have hR4 := RM.stay6 HF.out.1 HF.out.2.2.2.1 hO4 (fun q hq9 hL => by
          have h1 := (hRB9.ok.each q hq9).2
          have h2 := hRB9.lim
          omega)
        have hB4 := below_only HF.out.2.2.2.2 hO4 (Nat.le_refl _) (HSZ.out _ HF.out.2.2.2.2)
        have hN14 := (hO4.block _ (Array.getElem?_eq_some_iff.1 HF.out.2.1).1 (by have := hNN.out; omega)).trans HF.out.2.1
        have HG := Aside0.mk (And.intro hrN (And.intro hN14 (And.intro hR4 (And.intro hB4 hRB9))))
        obtain ⟨w8, hw8⟩ : ∃ X, ((((((w7.setCell ⟨N, 0, none⟩ (.int .i64 dn.limit)).setCell ⟨N, 1, none⟩ (.slice An nn cn)).setCell ⟨N, 2, none⟩ (.slice Bn mn en)).setCell ⟨N, 3, none⟩ (.int .i64 dn.ops)).setCell ⟨N, 4, none⟩ (.int .i64 dn.fuse)).setCell ⟨N, 5, none⟩ (.bool dn.down)) = X := ⟨_, rfl⟩
        rw [hw8] at HG ⊢
        clear hw8 x0 x1 x2 x3 x4 x5 y0 y1 y2 y3 y4 y5 yN hO4 hrN hR4 hB4 hN14 hlim9 hRB9
        by_cases qe : er = 0
        · have ge : (er != 0) = false := by rw [qe]; rfl
          have HER := Aside0.mk qe
          clear qe
          go_wp2_with fail
          go_roundg (on - (j + 1))
          case measure => exact (show on - (j + 1) < gk by have := hk.out; have := HLT.out; omega)
          case rel =>
            refine ⟨j + 1, An, nn, cn, Bn, mn, en, hsn, dn, (by have := HLT.out; exact (show on - (j + 1) + (j + 1) = on by omega)), by go_num, ⟨HG.out.1, HG.out.2.1, HG.out.2.2.1, HG.out.2.2.2.1, ?_, ?_⟩⟩
            · rw [List.take_add_one, HQ.out.1, Option.toList_some, List.foldl_append, hI.out.2.2.2.2.1]
              show rst (0, dj) q = _
              unfold rst
              rw [if_pos rfl, HDN.out.1, HDN.out.2, HER.out]
            · have h9 := HG.out.2.2.2.2
              rw [List.take_add_one, HQ.out.1, Option.toList_some, List.map_append, List.sum_append, List.map_singleton, List.sum_singleton, ← Nat.add_assoc]
              exact ⟨h9.ok, h9.lim, h9.ab.up (Nat.le_refl _) (by push_cast; omega)⟩
        · have ge : (er != 0) = true := bne_iff_ne.2 qe
          have HER := Aside0.mk qe
          clear qe
          obtain ⟨x0, x1, x2, x3, x4, x5⟩ := row6_cells HG.out.1
          obtain ⟨z0, z1, z2, z3, z4, z5⟩ := row6_cells HG.out.2.1
          have yf := fun j => Go.Joins.unfrozen_of_block HG.out.2.1 j
          have HDL := Aside0.mk (dload (row6_set (.int .i64 dn.limit) (.slice An nn cn) (.slice Bn mn en) (.int .i64 dn.ops) (.int .i64 dn.fuse) (.bool dn.down) HG.out.2.1))
          go_wp2_with fail
          have hD := HDL.out
          refine bodyPost_ret (v := .tuple #[.agg #[.int .i64 dn.limit, .slice An nn cn, .slice Bn mn en, .int .i64 dn.ops, .int .i64 dn.fuse, .bool dn.down], .int .i64 er]) (by simp [results, Try.results24, asAddr, hD]) rfl ?_
          have hO5 := only_set6 (W := w8) (g := N1) (.int .i64 dn.limit) (.slice An nn cn) (.slice Bn mn en) (.int .i64 dn.ops) (.int .i64 dn.fuse) (.bool dn.down)
          have hB5 := below_only HG.out.2.2.2.1 hO5 (Nat.le_of_lt hNN.out) (HSZ.out _ HG.out.2.2.2.1)
          have hfin : runS d ls = (er, dn) := by
            have e1 : ls = ls.take j ++ (q :: ls.drop (j + 1)) := by
              have h1 := HQ.out.1
              obtain ⟨hjl, hje⟩ := List.getElem?_eq_some_iff.1 h1
              rw [← hje, ← List.drop_eq_getElem_cons hjl, List.take_append_drop]
            unfold runS
            rw [e1, List.foldl_append, hI.out.2.2.2.2.1, List.foldl_cons, show rst (0, dj) q = (er, dn) by unfold rst; rw [if_pos rfl, HDN.out.1, HDN.out.2]]
            exact rst_stop _ HER.out _
          rw [hfin]
          exact ⟨An, nn, cn, Bn, mn, en, hsn, rfl, RM.stay6 HG.out.2.1 HG.out.2.2.1 hO5 (fun q _ _ => by decide), by rw [hN'.out]; exact hB5⟩
    · obtain rfl : on = j := by omega
      clear hge hjp
      obtain ⟨x0, x1, x2, x3, x4, x5⟩ := row6_cells hI.out.1
      obtain ⟨z0, z1, z2, z3, z4, z5⟩ := row6_cells hI.out.2.1
      have yf := fun j => Go.Joins.unfrozen_of_block hI.out.2.1 j
      have HDL := Aside0.mk (dload (row6_set (.int .i64 dj.limit) (.slice Aj nj cj) (.slice Bj mj ej) (.int .i64 dj.ops) (.int .i64 dj.fuse) (.bool dj.down) hI.out.2.1))
      go_wp2_with fail
      have hD := HDL.out
      refine bodyPost_ret (v := .tuple #[.agg #[.int .i64 dj.limit, .slice Aj nj cj, .slice Bj mj ej, .int .i64 dj.ops, .int .i64 dj.fuse, .bool dj.down], .int .i64 0]) (by simp [results, Try.results24, asAddr, hD]) rfl ?_
      have hO5 := only_set6 (W := wr) (g := N1) (.int .i64 dj.limit) (.slice Aj nj cj) (.slice Bj mj ej) (.int .i64 dj.ops) (.int .i64 dj.fuse) (.bool dj.down)
      have hB5 := below_only hI.out.2.2.2.1 hO5 (Nat.le_of_lt hNN.out) (HSZ.out _ hI.out.2.2.2.1)
      have hfin : runS d ls = (0, dj) := by
        have h1 := hI.out.2.2.2.2.1
        rw [List.take_of_length_le (by rw [← HW.out.2.2.1.len, HW.out.2.2.2]; exact Nat.le_refl _)] at h1
        exact h1
      rw [hfin]
      exact ⟨Aj, nj, cj, Bj, mj, ej, hsj, rfl, RM.stay6 hI.out.2.1 hI.out.2.2.1 hO5 (fun q _ _ => by decide), by rw [hN'.out]; exact hB5⟩
end Go.Proofs.Ythhalmjapiempaa
