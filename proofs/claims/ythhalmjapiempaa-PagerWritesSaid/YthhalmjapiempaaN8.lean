/- Plain laws of a disk's image, and of the pager's ops on one. -/
import Derived.Test.YthhalmjapiempaaN7
set_option linter.unusedVariables false
set_option linter.unusedSimpArgs false
namespace Go.Proofs.Ythhalmjapiempaa
open Go.RowKit

theorem put_at (x y : List UInt8) (a i : Nat) (h : a + y.length ≤ x.length) : (putL x y a)[i]? = if a ≤ i ∧ i < a + y.length then y[i - a]? else x[i]? := by
  unfold putL
  have e1 : (x.take a).length = a := by simp; omega
  rcases Nat.lt_or_ge i a with q | q
  · rw [List.getElem?_append_left (by omega), List.getElem?_take_of_lt q, if_neg (by omega)]
  · rw [List.getElem?_append_right (by omega), e1]
    rcases Nat.lt_or_ge (i - a) y.length with r | r
    · rw [List.getElem?_append_left r, if_pos (by omega)]
    · rw [List.getElem?_append_right r, List.getElem?_drop, if_neg (by omega)]
      congr 1
      omega
theorem cut_at (x : List UInt8) (a n i : Nat) : ((x.drop a).take n)[i]? = if i < n then x[a + i]? else none := by
  rw [List.getElem?_take]
  split
  · rw [List.getElem?_drop]
  · rfl
/-- A cut out of what was put: away from it, inside of it. -/
theorem cut_put_away (x y : List UInt8) (a b n : Nat) (h : a + y.length ≤ x.length) (hd : a + y.length ≤ b ∨ b + n ≤ a) : ((putL x y a).drop b).take n = (x.drop b).take n := by
  apply List.ext_getElem?
  intro i
  rw [cut_at, cut_at]
  split
  · rw [put_at _ _ _ _ h, if_neg (by omega)]
  · rfl
theorem cut_put_in (x y : List UInt8) (a : Nat) (h : a + y.length ≤ x.length) : ((putL x y a).drop a).take y.length = y := by
  apply List.ext_getElem?
  intro i
  rw [cut_at]
  split
  · rw [put_at _ _ _ _ h, if_pos (by omega)]
    congr 1
    omega
  · rw [List.getElem?_eq_none (by omega)]
theorem put_put (x y z : List UInt8) (a : Nat) (h : a + y.length + z.length ≤ x.length) : putL (putL x y a) z (a + y.length) = putL x (y ++ z) a := by
  have hl := putL_length x y a (by omega)
  apply List.ext_getElem?
  intro i
  rw [put_at _ _ _ _ (by omega), put_at _ _ _ _ (by omega), put_at _ _ _ _ (by rw [List.length_append]; omega), List.length_append]
  by_cases h1 : a + y.length ≤ i ∧ i < a + y.length + z.length
  · rw [if_pos h1, if_pos (by omega), List.getElem?_append_right (by omega)]
    congr 1
    omega
  · rw [if_neg h1]
    by_cases h2 : a ≤ i ∧ i < a + y.length
    · rw [if_pos h2, if_pos (by omega), List.getElem?_append_left (by omega)]
    · rw [if_neg h2, if_neg (by omega)]
/-- What reads tell is the image's. -/
theorem seen_read (a k : Nat) : ∀ (row : List (Nat × List UInt8)) (l : List UInt8) (n : Nat), l.length = n * 64 → a + k ≤ n → (∀ p, p ∈ row → p.2.length = 64 ∧ p.1 < n) → readL a k ((l.drop (a * 64)).take (k * 64)) row = ((seenL l row).drop (a * 64)).take (k * 64)
  | [], l, n, _, _, _ => rfl
  | p :: r, l, n, hl, hk, hr => by
    have hp := hr p List.mem_cons_self
    have hlen := putL_length l p.2 (64 * p.1) (by rw [hp.1, hl]; omega)
    rw [seenL, ← seen_read a k r _ n (by rw [hlen, hl]) hk (fun q hq => hr q (List.mem_cons_of_mem _ hq)), readL]
    congr 1
    have e3 : ((l.drop (a * 64)).take (k * 64)).length = k * 64 := by rw [List.length_take, List.length_drop]; omega
    by_cases hin : a ≤ p.1 ∧ p.1 < a + k
    · rw [if_pos hin]
      apply List.ext_getElem?
      intro i
      rw [put_at _ _ _ _ (by rw [hp.1, e3]; omega), cut_at, cut_at, put_at _ _ _ _ (by rw [hp.1, hl]; omega), hp.1]
      by_cases h1 : 64 * (p.1 - a) ≤ i ∧ i < 64 * (p.1 - a) + 64
      · rw [if_pos h1, if_pos (by omega), if_pos (by omega)]
        congr 1
        omega
      · rw [if_neg h1]
        split
        · rw [if_neg (by omega)]
        · rfl
    · rw [if_neg hin, cut_put_away _ _ _ _ _ (by rw [hp.1, hl]; omega) (by omega)]
theorem seenL_app (l : List UInt8) (a b : List (Nat × List UInt8)) : seenL l (a ++ b) = seenL (seenL l a) b := by
  induction a generalizing l with
  | nil => rfl
  | cons p r ih => exact ih _
theorem seen_segs (a : Nat) (b : List UInt8) (x : List UInt8) : ∀ k, k * 64 ≤ b.length → a * 64 + k * 64 ≤ x.length → seenL x (segs a b k) = putL x (b.take (k * 64)) (64 * a)
  | 0, _, _ => by simp [segs, seenL, putL_nil]
  | k + 1, hk, hx => by
    have e1 : (b.take (k * 64)).length = k * 64 := by rw [List.length_take]; omega
    have e2 : ((b.drop (k * 64)).take 64).length = 64 := by rw [List.length_take, List.length_drop]; omega
    rw [segs, seenL_snoc, seen_segs a b x k (by omega) (by omega)]
    have := put_put x (b.take (k * 64)) ((b.drop (k * 64)).take 64) (64 * a) (by rw [e1, e2]; omega)
    rw [e1] at this
    rw [show 64 * (a + k) = 64 * a + k * 64 by omega, this]
    congr 1
    rw [show (k + 1) * 64 = k * 64 + 64 by omega, List.take_add]
/-- The image. -/
def imD (d : DV) : List UInt8 := seenL d.l d.row
theorem imD_len {d : DV} (ok : d.ok (nD d)) : (imD d).length = nD d * 64 := seenL_len _ _ _ ok.len ok.each
theorem imD_write {d : DV} (ok : d.ok (nD d)) {a : Int} {b : List UInt8} (h : wrE d (nD d) a b.length = 0) : imD (writeD d a b) = putL (imD d) b (64 * a.toNat) := by
  obtain ⟨_, h1, h2, h3, h4⟩ := wrE_ok h
  unfold writeD
  rw [if_pos h]
  show seenL d.l (d.row ++ segs a.toNat b (b.length / 64)) = _
  have hl := imD_len ok
  rw [seenL_app, seen_segs _ _ _ _ (by omega) (by show _ ≤ (imD d).length; omega), List.take_of_length_le (by omega)]
  rfl
theorem imD_sync (d : DV) : imD (syncD d) = imD d := by
  unfold syncD
  split
  · rfl
  · split
    · rfl
    · rfl
theorem seenL_more (z : List UInt8) : ∀ (row : List (Nat × List UInt8)) (l : List UInt8) (n : Nat), l.length = n * 64 → (∀ p, p ∈ row → p.2.length = 64 ∧ p.1 < n) → seenL (l ++ z) row = seenL l row ++ z
  | [], _, _, _, _ => rfl
  | p :: r, l, n, hl, hr => by
    have hp := hr p List.mem_cons_self
    have hlen := putL_length l p.2 (64 * p.1) (by rw [hp.1, hl]; omega)
    have e : putL (l ++ z) p.2 (64 * p.1) = putL l p.2 (64 * p.1) ++ z := by
      unfold putL
      rw [List.take_append_of_le_length (by omega), List.drop_append_of_le_length (by rw [hp.1]; omega)]
      simp
    rw [seenL, e, seenL_more z r _ n (by rw [hlen, hl]) (fun q hq => hr q (List.mem_cons_of_mem _ hq))]
    rfl
theorem imD_grow {d : DV} (ok : d.ok (nD d)) (k : Int) (h : growE d k = 0) : imD (growD d k) = imD d ++ List.replicate (64 * (k.toNat - nD d)) 0 := by
  unfold growD
  rw [if_pos h]
  exact seenL_more _ _ _ _ ok.len ok.each
/-- A page's bytes. -/
def pgB (x : List UInt8) (k : Nat) : List UInt8 := (x.drop (256 * k)).take 256
theorem read_im {d : DV} (ok : d.ok (nD d)) {a k : Int} (h : readE d a k = 0) : readB d a k = ((imD d).drop (a.toNat * 64)).take (k.toNat * 64) := by
  unfold readB
  rw [if_pos h]
  refine seen_read _ _ _ _ _ ok.len ?_ ok.each
  unfold readE at h
  split at h
  · exact absurd h (by decide)
  · split at h
    · rename_i hh
      have := of_decide_eq_true hh
      omega
    · exact absurd h (by decide)
theorem some_page {d : DV} (ok : d.ok (nD d)) (hd : d.down = false) (k : Nat) (hk : 4 * (k + 1) ≤ nD d) (hk2 : k ≤ 32768) : someB d k 1 = pgB (imD d) k ∧ someE d k 1 = 0 := by
  have hE : readE d ((k : Int) * 4) (1 * 4) = 0 := by
    unfold readE
    rw [if_neg (by rw [hd]; decide), if_pos (show hasB _ _ _ = true from decide_eq_true (by omega))]
  constructor
  · unfold someB
    rw [if_neg (by omega), read_im ok hE]
    unfold pgB
    rw [show (((k : Int) * 4).toNat * 64) = 256 * k by omega]
    rfl
  · unfold someE
    rw [if_neg (by omega)]
    exact hE
theorem pgB_away (x y : List UInt8) (i k : Nat) (h : 256 * i + y.length ≤ x.length) (hd : k < i ∨ 256 * i + y.length ≤ 256 * k) : pgB (putL x y (256 * i)) k = pgB x k := cut_put_away _ _ _ _ _ h (by omega)
theorem pgB_in (x y : List UInt8) (i : Nat) (h : 256 * i + y.length ≤ x.length) (hy : y.length = 256) : pgB (putL x y (256 * i)) i = y := by
  have := cut_put_in x y (256 * i) h
  rw [hy] at this
  exact this
/-- A disk that is up, and that nothing brings down. -/
structure Up (d : DV) : Prop where
  ok : d.ok (nD d)
  up : d.down = false
  fuse : d.fuse = -1
theorem Up.opd {d : DV} (h : Up d) : (opD d).down = false ∧ (opD d).fuse = -1 := by
  have := h.fuse
  unfold opD
  simp only [this]
  exact ⟨by decide, by decide⟩
theorem Up.write {d : DV} (h : Up d) {a : Int} {b : List UInt8} (h1 : b.length % 64 = 0) (h2 : 0 < b.length) (h3 : 0 ≤ a) (h4 : a.toNat + b.length / 64 ≤ nD d) :
    writeE d a b = 0 ∧ Up (writeD d a b) ∧ nD (writeD d a b) = nD d ∧ imD (writeD d a b) = putL (imD d) b (64 * a.toNat) ∧ (writeD d a b).ops = d.ops + 1 ∧ (writeD d a b).limit = d.limit := by
  have hw : wrE d (nD d) a b.length = 0 := by
    unfold wrE
    rw [if_neg (by rw [h.up]; decide), if_neg (by omega), if_pos (show hasB _ _ _ = true from decide_eq_true (by omega))]
  refine ⟨?_, ⟨writeD_ok h.ok a b, ?_, ?_⟩, writeD_nD d a b, imD_write h.ok hw, ?_, ?_⟩
  · unfold writeE
    rw [if_pos hw, if_neg (by rw [h.fuse]; decide)]
  · unfold writeD
    rw [if_pos hw]
    exact h.opd.1
  · unfold writeD
    rw [if_pos hw]
    exact h.opd.2
  · unfold writeD
    rw [if_pos hw]
    rfl
  · unfold writeD
    rw [if_pos hw]
    rfl
theorem Up.sync {d : DV} (h : Up d) : syncE d = 0 ∧ Up (syncD d) ∧ nD (syncD d) = nD d ∧ imD (syncD d) = imD d ∧ (syncD d).ops = d.ops + 1 ∧ (syncD d).limit = d.limit ∧ (syncD d).row = [] := by
  have e1 : ¬ (d.down = true) := by rw [h.up]; decide
  have e2 : ¬ (d.fuse = 0) := by rw [h.fuse]; decide
  refine ⟨?_, ⟨(syncD_ok h.ok).1, ?_, ?_⟩, (syncD_ok h.ok).2, imD_sync d, ?_, ?_, ?_⟩
  · unfold syncE
    rw [if_neg e1, if_neg e2]
  all_goals unfold syncD; rw [if_neg e1, if_neg e2]
  · exact h.opd.1
  · exact h.opd.2
  · rfl
  · rfl
theorem Up.grow {d : DV} (h : Up d) {k : Int} (hk : k ≤ d.limit) : growE d k = 0 ∧ Up (growD d k) ∧ nD (growD d k) = nD d + (k.toNat - nD d) ∧ imD (growD d k) = imD d ++ List.replicate (64 * (k.toNat - nD d)) 0 ∧ (growD d k).ops = d.ops ∧ (growD d k).limit = d.limit := by
  have hE : growE d k = 0 := by
    unfold growE
    rw [if_neg (by rw [h.up]; decide), if_neg (by omega)]
  refine ⟨hE, ⟨(growD_ok h.ok k).1, ?_, ?_⟩, ?_, imD_grow h.ok k hE, ?_, ?_⟩
  · unfold growD
    rw [if_pos hE]
    exact h.up
  · unfold growD
    rw [if_pos hE]
    exact h.fuse
  · rw [(growD_ok h.ok k).2, if_pos hE]
  · unfold growD
    rw [if_pos hE]
  · unfold growD
    rw [if_pos hE]
/-- What ops leave of an image. -/
def imS (x : List UInt8) (l : List (Int × List UInt8)) : List UInt8 := l.foldl (fun x p => if p.2.length = 0 then x else putL x p.2 (256 * p.1.toNat)) x
/-- Ops that are pages of a disk of so many pages. -/
def InP (n : Nat) (l : List (Int × List UInt8)) : Prop := ∀ p ∈ l, p.2.length = 0 ∨ (p.2.length % 256 = 0 ∧ 0 ≤ p.1 ∧ p.1.toNat + p.2.length / 256 ≤ n)
theorem Up.all {n : Nat} : ∀ (l : List (Int × List UInt8)) (d : DV), Up d → 4 * n ≤ nD d → InP n l →
    (l.foldl stp (0, d)).1 = 0 ∧ Up (l.foldl stp (0, d)).2 ∧ nD (l.foldl stp (0, d)).2 = nD d ∧ imD (l.foldl stp (0, d)).2 = imS (imD d) l ∧ (l.foldl stp (0, d)).2.ops = d.ops + l.length ∧ (l.foldl stp (0, d)).2.limit = d.limit
  | [], d, h, _, _ => ⟨rfl, h, rfl, rfl, by simp, rfl⟩
  | p :: r, d, h, hn, hp => by
    have hr : InP n r := fun q hq => hp q (List.mem_cons_of_mem _ hq)
    have hs : stp (0, d) p = (oneE d p, oneD d p) := if_pos rfl
    rw [List.foldl_cons, hs]
    by_cases h0 : p.2.length = 0
    · obtain ⟨e1, e2, e3, e4, e5, e6, _⟩ := h.sync
      rw [show oneE d p = 0 from (if_pos h0).trans e1, show oneD d p = syncD d from if_pos h0]
      obtain ⟨k1, k2, k3, k4, k5, k6⟩ := Up.all r (syncD d) e2 (by omega) hr
      refine ⟨k1, k2, by omega, ?_, by rw [k5, e5, List.length_cons]; omega, by rw [k6, e6]⟩
      rw [k4, e4]
      unfold imS
      rw [List.foldl_cons, if_pos h0]
    · have hq := (hp p List.mem_cons_self).resolve_left h0
      obtain ⟨e1, e2, e3, e4, e5, e6⟩ := h.write (a := p.1 * 4) (b := p.2) (by omega) (by omega) (by omega) (by omega)
      rw [show oneE d p = 0 from (if_neg h0).trans e1, show oneD d p = writeD d (p.1 * 4) p.2 from if_neg h0]
      obtain ⟨k1, k2, k3, k4, k5, k6⟩ := Up.all r _ e2 (by omega) hr
      refine ⟨k1, k2, by omega, ?_, by rw [k5, e5, List.length_cons]; omega, by rw [k6, e6]⟩
      rw [k4, e4]
      unfold imS
      rw [List.foldl_cons, if_neg h0, show 64 * (p.1 * 4).toNat = 256 * p.1.toNat by omega]
end Go.Proofs.Ythhalmjapiempaa
