/- A disk with what stands beside it: one contract a function, in plain terms. -/
import Derived.Test.YtcegphnhohpegaaD12
set_option linter.unusedVariables false
set_option linter.unusedSimpArgs false
namespace Go.Proofs.Ytcegphnhohpegaa
open Go.RowKit

/-- How many sectors a disk has. -/
def nD (d : DV) : Nat := d.l.length / 64
def Apt (g : Nat) (A B : Option Addr) (i : Nat) : Prop := i ≠ g ∧ A ≠ some ⟨i, 0, none⟩ ∧ B ≠ some ⟨i, 0, none⟩
structure DP (w0 : World) (g : Nat) (R : List (Nat × Obj)) (A : Option Addr) (c : Nat) (B : Option Addr) (e : Nat) (d : DV) (W : World) : Prop where
  dm : DM W w0.heap.size g A (nD d) c B d.row.length e d
  ok : d.ok (nD d)
  apt : ∀ p ∈ R, Apt g A B p.1
  rows : ∀ p ∈ R, W.heap[p.1]? = some p.2
  bel : Below w0.heap.size w0 W
/-- A disk in memory, made since w0, and rows that stand beside it. -/
def DH (w0 : World) (g : Nat) (R : List (Nat × Obj)) (d : DV) (W : World) : Prop := ∃ A c B e, DP w0 g R A c B e d W
theorem DP.to {w0 : World} {g : Nat} {R : List (Nat × Obj)} {A B A1 B1 : Option Addr} {c e c1 e1 n1 m1 : Nat} {d d1 : DV} {W W1 : World} (h : DP w0 g R A c B e d W)
    (hm : DM W1 w0.heap.size g A1 n1 c1 B1 m1 e1 d1) (hn : n1 = nD d1) (hr : m1 = d1.row.length) (ok : d1.ok (nD d1)) (hf : Fr g A B W W1) (ha : New W A A1) (hb : New W B B1) : DP w0 g R A1 c1 B1 e1 d1 W1 := by
  subst hn hr
  have hlt : ∀ p ∈ R, p.1 < W.heap.size := fun p hp => (Array.getElem?_eq_some_iff.1 (h.rows p hp)).1
  exact ⟨hm, ok, fun p hp => ⟨(h.apt p hp).1, ha.ne _ (hlt p hp) (h.apt p hp).2.1, hb.ne _ (hlt p hp) (h.apt p hp).2.2⟩,
    fun p hp => (hf.block _ (hlt p hp) (h.apt p hp).1 (h.apt p hp).2.1 (h.apt p hp).2.2).trans (h.rows p hp),
    hf.below h.bel h.dm.lo (fun k => h.dm.sl.lo k) (fun k => h.dm.sr.lo k) h.bel.size⟩
theorem DH.lt {w0 : World} {g : Nat} {R : List (Nat × Obj)} {d : DV} {W : World} (h : DH w0 g R d W) : ∀ p ∈ R, p.1 < W.heap.size := by
  obtain ⟨A, c, B, e, h⟩ := h
  exact fun p hp => (Array.getElem?_eq_some_iff.1 (h.rows p hp)).1
theorem DH.bel {w0 : World} {g : Nat} {R : List (Nat × Obj)} {d : DV} {W : World} (h : DH w0 g R d W) : Below w0.heap.size w0 W := by
  obtain ⟨A, c, B, e, h⟩ := h
  exact h.bel
theorem DH.ok {w0 : World} {g : Nat} {R : List (Nat × Obj)} {d : DV} {W : World} (h : DH w0 g R d W) : d.ok (nD d) := by
  obtain ⟨A, c, B, e, h⟩ := h
  exact h.ok
theorem DH.row {w0 : World} {g : Nat} {R : List (Nat × Obj)} {d : DV} {W : World} (h : DH w0 g R d W) {i : Nat} {o : Obj} (hp : (i, o) ∈ R) : W.heap[i]? = some o := by
  obtain ⟨A, c, B, e, h⟩ := h
  exact h.rows _ hp
theorem DH.nlim {w0 : World} {g : Nat} {R : List (Nat × Obj)} {d : DV} {W : World} (h : DH w0 g R d W) : nD d ≤ 1000000000 := by
  obtain ⟨A, c, B, e, h⟩ := h
  exact h.dm.sl.lim
/-- What is made since changes nothing. -/
theorem DH.step {w0 : World} {g : Nat} {R : List (Nat × Obj)} {d : DV} {W W1 : World} (h : DH w0 g R d W) (hB : Below W.heap.size W W1) : DH w0 g R d W1 := by
  obtain ⟨A, c, B, e, h⟩ := h
  exact ⟨A, c, B, e, h.to (h.dm.below hB) rfl rfl h.ok (Fr.of_below hB) (.inl rfl) (.inl rfl)⟩
theorem DM.altA {w : World} {base g n c m e : Nat} {A B : Option Addr} {d : DV} (h : DM w base g A n c B m e d) (i : Nat) (hi : w.heap.size ≤ i) : Apt g A B i := by
  have hg := (Array.getElem?_eq_some_iff.1 h.row).1
  refine ⟨by omega, fun q => ?_, fun q => ?_⟩
  · rcases h.sl.addr with r | ⟨j, r, _, r2⟩
    · rw [r] at q; cases q
    · rw [r] at q; injection q with q; injection q with q; omega
  · rcases h.sr.addr with r | ⟨j, r, _, r2⟩
    · rw [r] at q; cases q
    · rw [r] at q; injection q with q; injection q with q; omega
/-- A row that was made since is held, too. -/
theorem DH.hold {w0 : World} {g : Nat} {R : List (Nat × Obj)} {d : DV} {W W1 : World} (h : DH w0 g R d W) (hB : Below W.heap.size W W1) (i : Nat) (o : Obj) (hi : W.heap.size ≤ i) (ho : W1.heap[i]? = some o) : DH w0 g ((i, o) :: R) d W1 := by
  obtain ⟨A, c, B, e, h⟩ := h
  have h1 := h.to (h.dm.below hB) rfl rfl h.ok (Fr.of_below hB) (.inl rfl) (.inl rfl)
  refine ⟨A, c, B, e, h1.dm, h1.ok, fun p hp => ?_, fun p hp => ?_, h1.bel⟩
  · rcases List.mem_cons.1 hp with rfl | hp
    · exact h.dm.altA _ hi
    · exact h1.apt p hp
  · rcases List.mem_cons.1 hp with rfl | hp
    · exact ho
    · exact h1.rows p hp
theorem DH.drop {w0 : World} {g : Nat} {R R1 : List (Nat × Obj)} {d : DV} {W : World} (h : DH w0 g R d W) (hs : ∀ p ∈ R1, p ∈ R) : DH w0 g R1 d W := by
  obtain ⟨A, c, B, e, h⟩ := h
  exact ⟨A, c, B, e, h.dm, h.ok, fun p hp => h.apt p (hs p hp), fun p hp => h.rows p (hs p hp), h.bel⟩
/-- A row that is held is another. -/
theorem DH.turn {w0 : World} {g : Nat} {R : List (Nat × Obj)} {d : DV} {W W1 : World} {i : Nat} {o o1 : Obj} (h : DH w0 g ((i, o) :: R) d W) (hO : OnlyB i W W1) (hi : w0.heap.size ≤ i) (hne : ∀ p ∈ R, p.1 ≠ i) (ho : W1.heap[i]? = some o1) : DH w0 g ((i, o1) :: R) d W1 := by
  obtain ⟨A, c, B, e, h⟩ := h
  have hap := h.apt (i, o) List.mem_cons_self
  have hg := (Array.getElem?_eq_some_iff.1 h.dm.row).1
  have hdm : DM W1 w0.heap.size g A (nD d) c B d.row.length e d :=
    ⟨(hO.block g hg (Ne.symm hap.1)).trans h.dm.row, h.dm.lo, h.dm.sl.only hO (fun k q r => hap.2.1 (by rw [q, r])), h.dm.sr.only hO (fun k q r => hap.2.2 (by rw [q, r])), h.dm.na, h.dm.nb, h.dm.ab⟩
  refine ⟨A, c, B, e, hdm, h.ok, fun p hp => ?_, fun p hp => ?_, ⟨hO.os.trans h.bel.os, hO.tape.trans h.bel.tape, hO.output.trans h.bel.output, Nat.le_trans h.bel.size hO.size, fun k hk => (hO.block k (Nat.lt_of_lt_of_le hk h.bel.size) (by omega)).trans (h.bel.block k hk)⟩⟩
  · rcases List.mem_cons.1 hp with rfl | hp
    · exact hap
    · exact h.apt p (List.mem_cons_of_mem _ hp)
  · rcases List.mem_cons.1 hp with rfl | hp
    · exact ho
    · have := h.rows p (List.mem_cons_of_mem _ hp)
      exact (hO.block _ (Array.getElem?_eq_some_iff.1 this).1 (hne p hp)).trans this
/-- Whose cells the disk does not touch. -/
def Free (w0 : World) (R : List (Nat × Obj)) (K : Option Addr) (n : Nat) : Prop := 0 < n → ∀ a, K = some a → a.block < w0.heap.size ∨ ∃ o, (a.block, o) ∈ R
theorem DP.free {w0 : World} {g : Nat} {R : List (Nat × Obj)} {A B K : Option Addr} {c e n : Nat} {d : DV} {W : World} (h : DP w0 g R A c B e d W) (hf : Free w0 R K n) (h0 : 0 < n) : ∀ a, K = some a → Apt g A B a.block := fun a ha => by
  rcases hf h0 a ha with q | ⟨o, q⟩
  · refine ⟨by have := h.dm.lo; omega, fun r => ?_, fun r => ?_⟩
    · have := h.dm.sl.lo _ r; omega
    · have := h.dm.sr.lo _ r; omega
  · exact h.apt _ q
/-! What the functions do, in plain terms. -/
def armD (d : DV) (k : Int) : DV := { d with fuse := if k < -1 then -1 else k }
def growE (d : DV) (k : Int) : Int := if d.down = true then 10 else if d.limit < k then 12 else 0
def growD (d : DV) (k : Int) : DV := if growE d k = 0 then { d with l := d.l ++ List.replicate (64 * (k.toNat - nD d)) 0 } else d
def readE (d : DV) (at_ many : Int) : Int := if d.down = true then 10 else if hasB (nD d) at_ many = true then 0 else 11
def readB (d : DV) (at_ many : Int) : List UInt8 := if readE d at_ many = 0 then readL at_.toNat many.toNat ((d.l.drop (at_.toNat * 64)).take (many.toNat * 64)) d.row else []
def writeE (d : DV) (at_ : Int) (b : List UInt8) : Int := if wrE d (nD d) at_ b.length = 0 then (if d.fuse = 0 then 10 else 0) else wrE d (nD d) at_ b.length
def writeD (d : DV) (at_ : Int) (b : List UInt8) : DV := if wrE d (nD d) at_ b.length = 0 then opD { d with row := d.row ++ segs at_.toNat b (b.length / 64) } else d
def syncE (d : DV) : Int := if d.down = true then 10 else if d.fuse = 0 then 10 else 0
def syncD (d : DV) : DV := if d.down = true then d else if d.fuse = 0 then opD d else { opD d with l := seenL d.l d.row, row := [] }
def crashD (d : DV) (ks : List Bool) : DV := { d with l := crL ks 0 d.l d.row, row := [], down := false, fuse := -1 }
theorem segs_len (a : Nat) (b : List UInt8) : ∀ k, (segs a b k).length = k
  | 0 => rfl
  | k + 1 => by rw [segs, List.length_append, segs_len a b k]; rfl
theorem segs_mem (a : Nat) (b : List UInt8) : ∀ k, k * 64 ≤ b.length → ∀ p, p ∈ segs a b k → p.2.length = 64 ∧ a ≤ p.1 ∧ p.1 < a + k
  | 0, _, p, hp => by cases hp
  | k + 1, hk, p, hp => by
    rcases List.mem_append.1 hp with hp | hp
    · have := segs_mem a b k (by omega) p hp
      exact ⟨this.1, this.2.1, by omega⟩
    · obtain rfl : p = _ := List.mem_singleton.1 hp
      refine ⟨?_, by omega, by omega⟩
      rw [List.length_take, List.length_drop]
      omega
theorem crL_len (ks : List Bool) (l : List UInt8) (row : List (Nat × List UInt8)) (n : Nat) (hl : l.length = n * 64) (h : ∀ p, p ∈ row → p.2.length = 64 ∧ p.1 < n) : ∀ k, (crL ks k l row).length = n * 64 := by
  induction row generalizing l with
  | nil => exact fun _ => hl
  | cons p r ih =>
    have hp := h p List.mem_cons_self
    intro k
    refine ih _ ?_ (fun q hq => h q (List.mem_cons_of_mem _ hq)) (k + 1)
    split
    · rw [putL_length _ _ _ (by rw [hp.1, hl]; omega)]
      exact hl
    · exact hl
theorem nD_of {d : DV} {n : Nat} (h : d.l.length = n * 64) : nD d = n := by unfold nD; omega
theorem wrE_ok {d : DV} {n : Nat} {at_ : Int} {k : Nat} (h : wrE d n at_ k = 0) : d.down = false ∧ k % 64 = 0 ∧ 0 < k ∧ 0 ≤ at_ ∧ at_.toNat + k / 64 ≤ n := by
  unfold wrE at h
  split at h
  · exact absurd h (by decide)
  · rename_i hd
    split at h
    · exact absurd h (by decide)
    · rename_i hm
      split at h
      · rename_i hh
        have := of_decide_eq_true hh
        exact ⟨by simpa using hd, by omega, by omega, this.1, by omega⟩
      · exact absurd h (by decide)
theorem writeD_nD (d : DV) (at_ : Int) (b : List UInt8) : nD (writeD d at_ b) = nD d := by unfold writeD; split <;> rfl
theorem writeD_ok {d : DV} (ok : d.ok (nD d)) (at_ : Int) (b : List UInt8) : (writeD d at_ b).ok (nD (writeD d at_ b)) := by
  rw [writeD_nD]
  unfold writeD
  split
  · rename_i hE
    obtain ⟨_, h1, h2, h3, h4⟩ := wrE_ok hE
    refine opd_ok ⟨ok.len, fun p hp => ?_, ok.lim0, ok.lim, ok.fuse⟩
    rcases List.mem_append.1 hp with hp | hp
    · exact ok.each p hp
    · have := segs_mem at_.toNat b (b.length / 64) (by omega) p hp
      exact ⟨this.1, by omega⟩
  · exact ok
theorem syncD_ok {d : DV} (ok : d.ok (nD d)) : (syncD d).ok (nD (syncD d)) ∧ nD (syncD d) = nD d := by
  unfold syncD
  split
  · exact ⟨ok, rfl⟩
  · split
    · exact ⟨opd_ok ok, rfl⟩
    · have hl := seenL_len d.l d.row _ ok.len ok.each
      have hn : nD { opD d with l := seenL d.l d.row, row := [] } = nD d := nD_of hl
      rw [hn]
      exact ⟨⟨hl, (fun p hp => by cases hp), ok.lim0, ok.lim, (opd_ok ok).fuse⟩, rfl⟩
theorem crashD_ok {d : DV} (ok : d.ok (nD d)) (ks : List Bool) : (crashD d ks).ok (nD (crashD d ks)) ∧ nD (crashD d ks) = nD d := by
  have hl := crL_len ks d.l d.row _ ok.len ok.each 0
  have hn : nD (crashD d ks) = nD d := nD_of hl
  rw [hn]
  exact ⟨⟨hl, (fun p hp => by cases hp), ok.lim0, ok.lim, (by show (-1 : Int) ≤ -1; omega)⟩, rfl⟩
theorem growD_ok {d : DV} (ok : d.ok (nD d)) (k : Int) : (growD d k).ok (nD (growD d k)) ∧ nD (growD d k) = if growE d k = 0 then nD d + (k.toNat - nD d) else nD d := by
  have hl := ok.len
  unfold growD
  split
  · have hn : nD { d with l := d.l ++ List.replicate (64 * (k.toNat - nD d)) 0 } = nD d + (k.toNat - nD d) := nD_of (by rw [List.length_append, List.length_replicate, hl]; omega)
    rw [hn]
    exact ⟨⟨by rw [List.length_append, List.length_replicate, hl]; omega, fun p hp => ⟨(ok.each p hp).1, by have := (ok.each p hp).2; omega⟩, ok.lim0, ok.lim, ok.fuse⟩, rfl⟩
  · exact ⟨ok, rfl⟩
/-! The contracts. -/
theorem size_h {w0 : World} {g : Nat} {R : List (Nat × Obj)} {d : DV} {W : World} (h : DH w0 g R d W) :
    Calls Try.prog 12 #[.pointer (some ⟨g, 0, none⟩)] W fun e w' => e = .returned (.int .i64 (nD d : Int)) ∧ W = w' := by
  obtain ⟨A, c, B, e, h⟩ := h
  exact size_any _ g A _ c B _ e d W h.dm
theorem limit_h {w0 : World} {g : Nat} {R : List (Nat × Obj)} {d : DV} {W : World} (h : DH w0 g R d W) :
    Calls Try.prog 26 #[.pointer (some ⟨g, 0, none⟩)] W fun e w' => e = .returned (.int .i64 d.limit) ∧ W = w' := by
  obtain ⟨A, c, B, e, h⟩ := h
  exact limit_any _ g A _ c B _ e d W h.dm
theorem down_h {w0 : World} {g : Nat} {R : List (Nat × Obj)} {d : DV} {W : World} (h : DH w0 g R d W) :
    Calls Try.prog 17 #[.pointer (some ⟨g, 0, none⟩)] W fun e w' => e = .returned (.bool d.down) ∧ W = w' := by
  obtain ⟨A, c, B, e, h⟩ := h
  exact down_any _ g A _ c B _ e d W h.dm
theorem ops_h {w0 : World} {g : Nat} {R : List (Nat × Obj)} {d : DV} {W : World} (h : DH w0 g R d W) :
    Calls Try.prog 18 #[.pointer (some ⟨g, 0, none⟩)] W fun e w' => e = .returned (.int .i64 d.ops) ∧ W = w' := by
  obtain ⟨A, c, B, e, h⟩ := h
  exact ops_any _ g A _ c B _ e d W h.dm
theorem pending_h {w0 : World} {g : Nat} {R : List (Nat × Obj)} {d : DV} {W : World} (h : DH w0 g R d W) :
    Calls Try.prog 20 #[.pointer (some ⟨g, 0, none⟩)] W fun e w' => e = .returned (.int .i64 (d.row.length : Int)) ∧ W = w' := by
  obtain ⟨A, c, B, e, h⟩ := h
  exact pending_any _ g A _ c B _ e d W h.dm
theorem arm_h {w0 : World} {g : Nat} {R : List (Nat × Obj)} {d : DV} {W : World} (h : DH w0 g R d W) (k : Int) :
    Calls Try.prog 16 #[.pointer (some ⟨g, 0, none⟩), .int .i64 k] W fun e w' => e = .returned (.tuple #[]) ∧ DH w0 g R (armD d k) w' := by
  obtain ⟨A, c, B, e, h⟩ := h
  refine (arm_any _ g A _ c B _ e d k W h.dm).mono ?_
  rintro e1 w1 ⟨rfl, hm, ho⟩
  refine ⟨rfl, A, c, B, e, h.to (d1 := armD d k) hm rfl rfl ⟨h.ok.len, h.ok.each, h.ok.lim0, h.ok.lim, ?_⟩ (Fr.of_only ho) (.inl rfl) (.inl rfl)⟩
  show -1 ≤ (if k < -1 then -1 else k)
  split <;> omega
theorem grow_h {w0 : World} {g : Nat} {R : List (Nat × Obj)} {d : DV} {W : World} (h : DH w0 g R d W) (k : Int) :
    Calls Try.prog 23 #[.pointer (some ⟨g, 0, none⟩), .int .i64 k] W fun e w' => e = .returned (.int .i64 (growE d k)) ∧ DH w0 g R (growD d k) w' := by
  have hok := growD_ok h.ok k
  obtain ⟨A, c, B, e, h⟩ := h
  cases hd : d.down with
  | true =>
    have hE : growE d k = 10 := if_pos hd
    have hD : growD d k = d := if_neg (by rw [hE]; decide)
    rw [hE, hD]
    refine (grow_down _ g A _ c B _ e d k W h.dm hd).mono ?_
    rintro e1 w1 ⟨rfl, rfl⟩
    exact ⟨rfl, A, c, B, e, h⟩
  | false =>
    by_cases hk : d.limit < k
    · have hE : growE d k = 12 := (if_neg (by rw [hd]; decide)).trans (if_pos hk)
      have hD : growD d k = d := if_neg (by rw [hE]; decide)
      rw [hE, hD]
      refine (grow_full _ g A _ c B _ e d k W h.dm hd hk).mono ?_
      rintro e1 w1 ⟨rfl, rfl⟩
      exact ⟨rfl, A, c, B, e, h⟩
    · have hE : growE d k = 0 := (if_neg (by rw [hd]; decide)).trans (if_neg hk)
      have hD : growD d k = { d with l := d.l ++ List.replicate (64 * (k.toNat - nD d)) 0 } := if_pos hE
      rw [if_pos hE] at hok
      rw [hE]
      refine (grow_any _ g A _ c B _ e d k W h.dm hd (by omega) (by have := h.ok.lim; omega)).mono ?_
      rintro e1 w1 ⟨rfl, A1, c1, hm, hf, ha⟩
      refine ⟨rfl, A1, c1, B, e, h.to (d1 := growD d k) (by rw [hD]; exact hm) hok.2.symm (by rw [hD]) hok.1 hf ha (.inl rfl)⟩
theorem image_h {w0 : World} {g : Nat} {R : List (Nat × Obj)} {d : DV} {W : World} (h : DH w0 g R d W) :
    Calls Try.prog 11 #[.pointer (some ⟨g, 0, none⟩)] W fun e w' => ∃ A1 c1, e = .returned (.slice A1 (nD d * 64) c1) ∧ Ow w' W.heap.size A1 (nD d * 64) c1 (seenL d.l d.row) ∧ Below W.heap.size W w' := by
  obtain ⟨A, c, B, e, h⟩ := h
  exact image_any _ g A _ c B _ e d W h.dm h.ok
theorem read_h {w0 : World} {g : Nat} {R : List (Nat × Obj)} {d : DV} {W : World} (h : DH w0 g R d W) (at_ many : Int) :
    Calls Try.prog 25 #[.pointer (some ⟨g, 0, none⟩), .int .i64 at_, .int .i64 many] W fun e w' => ∃ A1 c1, e = .returned (.tuple #[.slice A1 (readB d at_ many).length c1, .int .i64 (readE d at_ many)]) ∧ Ow w' W.heap.size A1 (readB d at_ many).length c1 (readB d at_ many) ∧ Below W.heap.size W w' := by
  obtain ⟨A, c, B, e, h⟩ := h
  cases hd : d.down with
  | true =>
    have hE : readE d at_ many = 10 := if_pos hd
    have hD : readB d at_ many = [] := if_neg (by rw [hE]; decide)
    rw [hE, hD]
    refine (read_down _ g A _ c B _ e d at_ many W h.dm hd).mono ?_
    rintro e1 w1 ⟨rfl, rfl⟩
    exact ⟨none, 0, rfl, Ow.nil _ _, Below.refl _ _⟩
  | false =>
    cases hh : hasB (nD d) at_ many with
    | false =>
      have hE : readE d at_ many = 11 := (if_neg (by rw [hd]; decide)).trans (if_neg (by rw [hh]; decide))
      have hD : readB d at_ many = [] := if_neg (by rw [hE]; decide)
      rw [hE, hD]
      refine (read_range _ g A _ c B _ e d at_ many W h.dm hd hh).mono ?_
      rintro e1 w1 ⟨rfl, rfl⟩
      exact ⟨none, 0, rfl, Ow.nil _ _, Below.refl _ _⟩
    | true =>
      have hE : readE d at_ many = 0 := (if_neg (by rw [hd]; decide)).trans (if_pos hh)
      have hD : readB d at_ many = readL at_.toNat many.toNat ((d.l.drop (at_.toNat * 64)).take (many.toNat * 64)) d.row := if_pos hE
      have hb := of_decide_eq_true hh
      have hl : (readB d at_ many).length = many.toNat * 64 := by
        rw [hD]
        refine readL_len _ _ _ _ ?_ (fun p hp => (h.ok.each p hp).1)
        rw [List.length_take, List.length_drop, h.ok.len]
        omega
      rw [hE, hl, hD]
      have := read_ok _ g A _ c B _ e d at_.toNat many.toNat W h.dm h.ok hd (by omega)
      rw [show ((at_.toNat : Nat) : Int) = at_ by omega, show ((many.toNat : Nat) : Int) = many by omega] at this
      exact this
theorem write_h {w0 : World} {g : Nat} {R : List (Nat × Obj)} {d : DV} {W : World} (h : DH w0 g R d W) (at_ : Int) (K : Option Addr) (kn kc : Nat) (b : List UInt8) (hb : Bs W K kn kc b) (hK : Free w0 R K kn) (hmk : d.row.length + kn ≤ 1000000) (h0 : 0 ≤ d.ops) (h1 : d.ops ≤ 1000000) (h3 : d.fuse ≤ 9223372036854775807) :
    Calls Try.prog 13 #[.pointer (some ⟨g, 0, none⟩), .int .i64 at_, .slice K kn kc] W fun e w' => e = .returned (.int .i64 (writeE d at_ b)) ∧ DH w0 g R (writeD d at_ b) w' := by
  have hok := writeD_ok h.ok at_ b
  have hnn := writeD_nD d at_ b
  obtain ⟨A, c, B, e, h⟩ := h
  have hbl := hb.len
  have hkl := hb.lim
  by_cases hE : wrE d (nD d) at_ b.length = 0
  · have hv : writeE d at_ b = if d.fuse = 0 then 10 else 0 := if_pos hE
    have hD : writeD d at_ b = opD { d with row := d.row ++ segs at_.toNat b (b.length / 64) } := if_pos hE
    rw [hv]
    rw [hbl] at hE hD
    obtain ⟨_, _, hp, _, _⟩ := wrE_ok hE
    refine (write_go _ g A _ c B _ e d at_ K kn kc b W h.dm h.ok hb hE (h.free hK hp) hmk h0 h1 h3).mono ?_
    rintro e1 w1 ⟨rfl, B1, e2, hm, hf, hnb⟩
    refine ⟨rfl, A, c, B1, e2, h.to (d1 := writeD d at_ b) (by rw [hD]; exact hm) hnn.symm ?_ hok hf (.inl rfl) hnb⟩
    rw [hD]
    show _ = (d.row ++ segs at_.toNat b (kn / 64)).length
    rw [List.length_append, segs_len]
  · have hv : writeE d at_ b = wrE d (nD d) at_ b.length := if_neg hE
    have hD : writeD d at_ b = d := if_neg hE
    rw [hv, hD, hbl]
    rw [hbl] at hE
    cases hd : d.down with
    | true =>
      rw [show wrE d (nD d) at_ kn = 10 from if_pos hd]
      refine (write_down _ g A _ c B _ e d at_ K kn kc W h.dm hd hkl).mono ?_
      rintro e1 w1 ⟨rfl, rfl⟩
      exact ⟨rfl, A, c, B, e, h⟩
    | false =>
      by_cases hm : kn / 64 = 0 ∨ kn % 64 ≠ 0
      · rw [show wrE d (nD d) at_ kn = 1 from (if_neg (by rw [hd]; decide)).trans (if_pos hm)]
        refine (write_arg _ g A _ c B _ e d at_ K kn kc W h.dm hd hkl hm).mono ?_
        rintro e1 w1 ⟨rfl, rfl⟩
        exact ⟨rfl, A, c, B, e, h⟩
      · cases hh : hasB (nD d) at_ ((kn / 64 : Nat) : Int) with
        | true => exact absurd ((if_neg (by rw [hd]; decide)).trans ((if_neg hm).trans (if_pos hh))) hE
        | false =>
          rw [show wrE d (nD d) at_ kn = 11 from (if_neg (by rw [hd]; decide)).trans ((if_neg hm).trans (if_neg (by rw [hh]; decide)))]
          refine (write_range _ g A _ c B _ e d at_ K kn kc W h.dm hd hkl hm hh).mono ?_
          rintro e1 w1 ⟨rfl, rfl⟩
          exact ⟨rfl, A, c, B, e, h⟩
theorem sync_h {w0 : World} {g : Nat} {R : List (Nat × Obj)} {d : DV} {W : World} (h : DH w0 g R d W) (h0 : 0 ≤ d.ops) (h1 : d.ops ≤ 1000000) (h3 : d.fuse ≤ 9223372036854775807) :
    Calls Try.prog 10 #[.pointer (some ⟨g, 0, none⟩)] W fun e w' => e = .returned (.int .i64 (syncE d)) ∧ DH w0 g R (syncD d) w' := by
  have hok := syncD_ok h.ok
  obtain ⟨A, c, B, e, h⟩ := h
  cases hd : d.down with
  | true =>
    rw [show syncE d = 10 from if_pos hd, show syncD d = d from if_pos hd]
    refine (sync_down _ g A _ c B _ e d W h.dm hd).mono ?_
    rintro e1 w1 ⟨rfl, rfl⟩
    exact ⟨rfl, A, c, B, e, h⟩
  | false =>
    have hnd : ¬ d.down = true := by rw [hd]; decide
    by_cases hf : d.fuse = 0
    · rw [show syncE d = 10 from (if_neg hnd).trans (if_pos hf)]
      have hD : syncD d = opD d := (if_neg hnd).trans (if_pos hf)
      refine (sync_fuse _ g A _ c B _ e d W h.dm hd h0 h1 hf).mono ?_
      rintro e1 w1 ⟨rfl, hm, ho⟩
      exact ⟨rfl, A, c, B, e, h.to (d1 := syncD d) (by rw [hD]; exact hm) hok.2.symm (by rw [hD]; rfl) hok.1 (Fr.of_only ho) (.inl rfl) (.inl rfl)⟩
    · rw [show syncE d = 0 from (if_neg hnd).trans (if_neg hf)]
      have hD : syncD d = { opD d with l := seenL d.l d.row, row := [] } := (if_neg hnd).trans (if_neg hf)
      refine (sync_ok _ g A _ c B _ e d W h.dm h.ok hd h0 h1 h3 hf).mono ?_
      rintro e1 w1 ⟨rfl, A1, c1, hm, hfr, ha⟩
      exact ⟨rfl, A1, c1, none, 0, h.to (d1 := syncD d) (by rw [hD]; exact hm) hok.2.symm (by rw [hD]; rfl) hok.1 hfr ha (.inr fun k q => by cases q)⟩
theorem crash_h {w0 : World} {g : Nat} {R : List (Nat × Obj)} {d : DV} {W : World} (h : DH w0 g R d W) (K : Option Addr) (kn kc : Nat) (ks : List Bool) (hb : Rb W K kn kc ks) (hK : Free w0 R K kn) :
    Calls Try.prog 14 #[.pointer (some ⟨g, 0, none⟩), .slice K kn kc] W fun e w' => e = .returned (.tuple #[]) ∧ DH w0 g R (crashD d ks) w' := by
  have hok := crashD_ok h.ok ks
  obtain ⟨A, c, B, e, h⟩ := h
  refine (crash_any _ g A _ c B _ e d K kn kc ks W h.dm h.ok hb (fun a ha hp => h.free hK hp a ha)).mono ?_
  rintro e1 w1 ⟨rfl, hm, hf⟩
  exact ⟨rfl, A, c, none, 0, h.to (d1 := crashD d ks) hm hok.2.symm rfl hok.1 hf (.inl rfl) (.inr fun k q => by cases q)⟩
theorem newD_ok (L : Int) (h0 : 0 ≤ L) (h1 : L ≤ 65536) (l : List UInt8) (n : Nat) (hl : l.length = n * 64) : (⟨L, l, [], 0, -1, false⟩ : DV).ok n := ⟨hl, (fun p hp => by cases hp), h0, h1, (by show (-1 : Int) ≤ -1; omega)⟩
theorem limI_le (k : Int) : 0 ≤ limI k ∧ limI k ≤ 65536 := by unfold limI; omega
theorem load_h {w0 : World} (K : Option Addr) (kn kc : Nat) (xs : List UInt8) (limit : Int) (w : World) (hb : Bs w K kn kc xs) (hkn : kn ≤ 1000000) (hw : Below w0.heap.size w0 w) :
    Calls Try.prog 9 #[.slice K kn kc, .int .i64 limit] w fun e' w' => ∃ g, e' = .returned (.pointer (some ⟨g, 0, none⟩)) ∧ DH w0 g [] ⟨limI limit, loadL xs (cntL kn (limI limit)), [], 0, -1, false⟩ w' ∧ Below w.heap.size w w' := by
  refine (load_any K kn kc xs limit w hb hkn).mono ?_
  rintro e1 w1 ⟨g, rfl, A, c, hm, hB⟩
  have hn := nD_of (d := ⟨limI limit, loadL xs (cntL kn (limI limit)), [], 0, -1, false⟩) (loadL_len xs (cntL kn (limI limit)))
  have hok := newD_ok _ (limI_le limit).1 (limI_le limit).2 _ _ (loadL_len xs (cntL kn (limI limit)))
  refine ⟨g, rfl, ⟨A, c, none, 0, ?_, by rw [hn]; exact hok, (fun p hp => by cases hp), (fun p hp => by cases hp), below_then hw hw.size hB⟩, hB⟩
  rw [hn]
  exact ⟨hm.row, Nat.le_trans hw.size hm.lo, hm.sl.mono hw.size, hm.sr.mono hw.size, hm.na, hm.nb, hm.ab⟩
theorem new_h {w0 : World} (limit : Int) (w : World) (hw : Below w0.heap.size w0 w) :
    Calls Try.prog 22 #[.int .i64 limit] w fun e' w' => ∃ g, e' = .returned (.pointer (some ⟨g, 0, none⟩)) ∧ DH w0 g [] ⟨limI limit, [], [], 0, -1, false⟩ w' ∧ Below w.heap.size w w' := by
  refine (new_any limit w).mono ?_
  rintro e1 w1 ⟨g, rfl, hm, hB⟩
  have hok := newD_ok _ (limI_le limit).1 (limI_le limit).2 [] 0 rfl
  have hn := nD_of (d := ⟨limI limit, [], [], 0, -1, false⟩) (n := 0) rfl
  exact ⟨g, rfl, ⟨none, 0, none, 0, (by rw [hn]; exact ⟨hm.row, Nat.le_trans hw.size hm.lo, hm.sl.mono hw.size, hm.sr.mono hw.size, hm.na, hm.nb, hm.ab⟩), by rw [hn]; exact hok, (fun p hp => by cases hp), (fun p hp => by cases hp), below_then hw hw.size hB⟩, hB⟩
end Go.Proofs.Ytcegphnhohpegaa
