/- Plain laws of a commit that may go down: sector by sector. -/
import Derived.Test.YthhalmjapiempaaP8
import Derived.Test.YthhalmjapiempaaNC
set_option linter.unusedVariables false
set_option linter.unusedSimpArgs false
namespace Go.Proofs.Ythhalmjapiempaa
open Go.RowKit

/-- A sector. -/
def sgk (l : List UInt8) (k : Nat) : List UInt8 := (l.drop (64 * k)).take 64
def z64s : List UInt8 := List.replicate 64 0
theorem sgk_zeros {j n : Nat} (h : 64 * j + 64 ≤ n) : sgk (List.replicate n 0) j = z64s := by
  unfold sgk z64s
  rw [List.drop_replicate, List.take_replicate, Nat.min_eq_left (by omega)]
theorem sgk_put (x y : List UInt8) (a k : Nat) (hy : y.length = 64) (h : 64 * a + 64 ≤ x.length) : sgk (putL x y (64 * a)) k = if k = a then y else sgk x k := by
  unfold sgk
  by_cases e : k = a
  · subst e
    rw [if_pos rfl]
    have := cut_put_in x y (64 * k) (by omega)
    rwa [hy] at this
  · rw [if_neg e]
    exact cut_put_away x y (64 * a) (64 * k) 64 (by omega) (by omega)
theorem sgk_more (x z : List UInt8) (k : Nat) (h : 64 * k + 64 ≤ x.length) : sgk (x ++ z) k = sgk x k := by
  unfold sgk
  rw [List.drop_append_of_le_length (by omega), List.take_append_of_le_length (by rw [List.length_drop]; omega)]
theorem sgk_cut (b : List UInt8) (i : Nat) : (b.drop (i * 64)).take 64 = sgk b i := by
  unfold sgk
  rw [Nat.mul_comm]
theorem sgk_page (x : List UInt8) (k j : Nat) (hj : j < 4) : sgk (pgB x k) j = sgk x (4 * k + j) := by
  unfold sgk pgB
  rw [List.drop_take, List.drop_drop, List.take_take, Nat.min_eq_left (by omega)]
  congr 2
  omega
theorem page_eq {x y : List UInt8} (hx : x.length = 256) (hy : y.length = 256) (h : ∀ j, j < 4 → sgk x j = sgk y j) : x = y := by
  apply List.ext_getElem?
  intro i
  rcases Nat.lt_or_ge i 256 with q | q
  · have e := congrArg (fun z : List UInt8 => z[i - 64 * (i / 64)]?) (h (i / 64) (by omega))
    simp only [sgk] at e
    rw [cut_at, cut_at, if_pos (by omega), if_pos (by omega), show 64 * (i / 64) + (i - 64 * (i / 64)) = i by omega] at e
    exact e
  · rw [List.getElem?_eq_none (by omega), List.getElem?_eq_none (by omega)]
theorem getD_sgk (x : List UInt8) (i : Nat) : (sgk x (i / 64)).getD (i - 64 * (i / 64)) 0 = x.getD i 0 := by
  rw [List.getD_eq_getElem?_getD, List.getD_eq_getElem?_getD, sgk, cut_at, if_pos (by omega), show 64 * (i / 64) + (i - 64 * (i / 64)) = i by omega]
/-- A page whose sectors are those of a meta's page, or zeros. -/
theorem mix_dec {X y : List UInt8} (hX : X.length = 256) (hz : (X.drop 64).take 128 = List.replicate 128 0) (hy : y.length = 256) (h : ∀ j, j < 4 → sgk y j = sgk X j ∨ sgk y j = z64s) : y = X ∨ decE y = 90 := by
  obtain ⟨kb, hkb⟩ : ∃ kb : Nat → Bool, ∀ j, kb j = decide (sgk y j = sgk X j) := ⟨fun j => decide (sgk y j = sgk X j), fun j => rfl⟩
  have e : y = tz X kb 4 := by
    refine List.ext_getElem? fun i => ?_
    have hl := tz_len hX kb 4 (Nat.le_refl _)
    rcases Nat.lt_or_ge i 256 with q | q
    · have hg := tz_get hX kb 4 (Nat.le_refl _) i q
      have : y.getD i 0 = (tz X kb 4).getD i 0 := by
        rw [hg]
        by_cases hk : sgk y (i / 64) = sgk X (i / 64)
        · rw [if_pos ⟨by omega, by rw [hkb]; exact decide_eq_true hk⟩, ← getD_sgk y, ← getD_sgk X, hk]
        · rw [if_neg (fun z => by have := z.2; rw [hkb, decide_eq_false hk] at this; cases this), ← getD_sgk y, (h (i / 64) (by omega)).resolve_left hk]
          unfold z64s
          rw [List.getD_eq_getElem?_getD, List.getElem?_replicate_of_lt (by omega)]
          rfl
      rw [List.getD_eq_getElem?_getD, List.getD_eq_getElem?_getD, List.getElem?_eq_getElem (by omega), List.getElem?_eq_getElem (by omega)] at this
      rw [List.getElem?_eq_getElem (by omega), List.getElem?_eq_getElem (by omega)]
      exact congrArg some this
    · rw [List.getElem?_eq_none (by omega), List.getElem?_eq_none (by omega)]
  by_cases hk : kb 0 = true ∧ kb 3 = true
  · exact .inl (e.trans (tz_all hX hz hk.1 hk.2))
  · refine .inr ?_
    rw [e, dec_ref]
    refine tz_none hX ?_
    cases h0 : kb 0
    · exact .inl rfl
    · cases h3 : kb 3
      · exact .inr rfl
      · exact absurd ⟨h0, h3⟩ hk
/-- What a sector has, and what was written to it. -/
def Sec (P : List UInt8 → Prop) (k : Nat) (d : DV) : Prop := P (sgk d.l k) ∧ ∀ p ∈ d.row, p.1 = k → P p.2
theorem seen_sec {P : List UInt8 → Prop} {k n : Nat} : ∀ (row : List (Nat × List UInt8)) (l : List UInt8), l.length = n * 64 → (∀ p, p ∈ row → p.2.length = 64 ∧ p.1 < n) → P (sgk l k) → (∀ p ∈ row, p.1 = k → P p.2) → P (sgk (seenL l row) k)
  | [], l, _, _, h, _ => h
  | p :: r, l, hl, he, h, hr => by
    have hp := he p List.mem_cons_self
    have hs := sgk_put l p.2 p.1 k hp.1 (by omega)
    refine seen_sec r (putL l p.2 (64 * p.1)) (by rw [putL_length _ _ _ (by omega)]; exact hl) (fun q hq => he q (List.mem_cons_of_mem _ hq)) ?_ (fun q hq => hr q (List.mem_cons_of_mem _ hq))
    rw [hs]
    split
    · rename_i e
      exact hr p List.mem_cons_self e.symm
    · exact h
theorem cr_sec {P : List UInt8 → Prop} {k n : Nat} (ks : List Bool) : ∀ (row : List (Nat × List UInt8)) (l : List UInt8) (i : Nat), l.length = n * 64 → (∀ p, p ∈ row → p.2.length = 64 ∧ p.1 < n) → P (sgk l k) → (∀ p ∈ row, p.1 = k → P p.2) → P (sgk (crL ks i l row) k)
  | [], l, _, _, _, h, _ => h
  | p :: r, l, i, hl, he, h, hr => by
    have hp := he p List.mem_cons_self
    have hs := sgk_put l p.2 p.1 k hp.1 (by omega)
    have hrr : ∀ q ∈ r, q.1 = k → P q.2 := fun q hq => hr q (List.mem_cons_of_mem _ hq)
    have her : ∀ q, q ∈ r → q.2.length = 64 ∧ q.1 < n := fun q hq => he q (List.mem_cons_of_mem _ hq)
    rw [crL]
    split
    · refine cr_sec ks r (putL l p.2 (64 * p.1)) (i + 1) (by rw [putL_length _ _ _ (by omega)]; exact hl) her ?_ hrr
      rw [hs]
      split
      · rename_i e
        exact hr p List.mem_cons_self e.symm
      · exact h
    · exact cr_sec ks r l (i + 1) hl her h hrr
theorem segs_at (a : Nat) (b : List UInt8) : ∀ m, ∀ p, p ∈ segs a b m → ∃ i, i < m ∧ p.1 = a + i ∧ p.2 = sgk b i
  | 0, p, h => by cases h
  | m + 1, p, h => by
    rcases List.mem_append.1 h with h | h
    · obtain ⟨i, a1, a2⟩ := segs_at a b m p h
      exact ⟨i, by omega, a2⟩
    · obtain rfl : p = _ := List.mem_singleton.1 h
      exact ⟨m, by omega, rfl, sgk_cut b m⟩
theorem Sec.write {P : List UInt8 → Prop} {k : Nat} {d : DV} (h : Sec P k d) (a : Int) (b : List UInt8) (hb : ∀ i, i < b.length / 64 → a.toNat + i = k → P (sgk b i)) : Sec P k (writeD d a b) := by
  unfold writeD
  split
  · refine ⟨h.1, fun p hp e => ?_⟩
    rcases List.mem_append.1 (show p ∈ d.row ++ segs a.toNat b (b.length / 64) from hp) with hp | hp
    · exact h.2 p hp e
    · obtain ⟨i, hi, e1, e2⟩ := segs_at _ _ _ p hp
      rw [e2]
      exact hb i hi (by omega)
  · exact h
theorem Sec.sync {P : List UInt8 → Prop} {k : Nat} {d : DV} (ok : d.ok (nD d)) (h : Sec P k d) : Sec P k (syncD d) := by
  unfold syncD
  split
  · exact h
  · split
    · exact h
    · exact ⟨seen_sec d.row d.l ok.len ok.each h.1 h.2, fun p hp => by cases hp⟩
theorem Sec.grow {P : List UInt8 → Prop} {k : Nat} {d : DV} (ok : d.ok (nD d)) (hk : k < nD d) (h : Sec P k d) (n : Int) : Sec P k (growD d n) := by
  unfold growD
  split
  · refine ⟨?_, h.2⟩
    show P (sgk (d.l ++ List.replicate (64 * (n.toNat - nD d)) 0) k)
    rw [sgk_more _ _ _ (by rw [ok.len]; omega)]
    exact h.1
  · exact h
theorem Sec.crash {P : List UInt8 → Prop} {k : Nat} {d : DV} (ok : d.ok (nD d)) (h : Sec P k d) (ks : List Bool) : Sec P k (crashD d ks) :=
  ⟨cr_sec ks d.row d.l 0 ok.len ok.each h.1 h.2, fun p hp => by cases hp⟩
theorem Sec.mono {P Q : List UInt8 → Prop} {k : Nat} {d : DV} (h : Sec P k d) (i : ∀ z, P z → Q z) : Sec Q k d := ⟨i _ h.1, fun p hp e => i _ (h.2 p hp e)⟩
/-- May an op be, where a sector keeps to P? -/
def Fits (P : List UInt8 → Prop) (k : Nat) (p : Int × List UInt8) : Prop := p.2.length = 0 ∨ ∀ i, i < p.2.length / 64 → (p.1 * 4).toNat + i = k → P (sgk p.2 i)
theorem one_ok {d : DV} (ok : d.ok (nD d)) (p : Int × List UInt8) : (oneD d p).ok (nD (oneD d p)) ∧ nD (oneD d p) = nD d := by
  unfold oneD
  split
  · exact syncD_ok ok
  · exact ⟨writeD_ok ok _ _, writeD_nD _ _ _⟩
theorem run_sec {P : List UInt8 → Prop} {k : Nat} : ∀ (L : List (Int × List UInt8)) (s : Int × DV), s.2.ok (nD s.2) → Sec P k s.2 → (∀ p ∈ L, Fits P k p) → Sec P k (L.foldl stp s).2
  | [], _, _, h, _ => h
  | p :: r, s, ok, h, hf => by
    rw [List.foldl_cons]
    unfold stp
    split
    · have ho := one_ok ok p
      refine run_sec r (oneE s.2 p, oneD s.2 p) ho.1 ?_ (fun q hq => hf q (List.mem_cons_of_mem _ hq))
      have hp := hf p List.mem_cons_self
      show Sec P k (oneD s.2 p)
      unfold oneD
      split
      · exact h.sync ok
      · rename_i h0
        exact h.write _ _ (hp.resolve_left h0)
    · exact run_sec r s ok h (fun q hq => hf q (List.mem_cons_of_mem _ hq))
theorem run_ok : ∀ (L : List (Int × List UInt8)) (s : Int × DV), s.2.ok (nD s.2) → (L.foldl stp s).2.ok (nD (L.foldl stp s).2) ∧ nD (L.foldl stp s).2 = nD s.2
  | [], _, ok => ⟨ok, rfl⟩
  | p :: r, s, ok => by
    rw [List.foldl_cons]
    have key : (stp s p).2.ok (nD (stp s p).2) ∧ nD (stp s p).2 = nD s.2 := by
      unfold stp
      split
      · exact one_ok ok p
      · exact ⟨ok, rfl⟩
    have := run_ok r (stp s p) key.1
    exact ⟨this.1, this.2.trans key.2⟩
theorem sync_row {d : DV} (h : syncE d = 0) : (syncD d).row = [] := by
  unfold syncE at h
  unfold syncD
  split at h
  · cases h
  · rename_i h1
    split at h
    · cases h
    · rename_i h2
      rw [if_neg h1, if_neg h2]
/-- Ops that all went well. -/
theorem run_im : ∀ (L : List (Int × List UInt8)) (s : Int × DV), s.2.ok (nD s.2) → (L.foldl stp s).1 = 0 → s.1 = 0 ∧ imD (L.foldl stp s).2 = imS (imD s.2) L
  | [], s, _, h => ⟨h, rfl⟩
  | p :: r, s, ok, h => by
    rw [List.foldl_cons] at h ⊢
    by_cases h0 : s.1 = 0
    · have e : stp s p = (oneE s.2 p, oneD s.2 p) := if_pos h0
      rw [e] at h ⊢
      obtain ⟨k1, k2⟩ := run_im r (oneE s.2 p, oneD s.2 p) (one_ok ok p).1 h
      refine ⟨h0, k2.trans ?_⟩
      have k1 : oneE s.2 p = 0 := k1
      have key : imD (oneD s.2 p) = if p.2.length = 0 then imD s.2 else putL (imD s.2) p.2 (256 * p.1.toNat) := by
        unfold oneD
        unfold oneE at k1
        by_cases hp : p.2.length = 0
        · rw [if_pos hp, if_pos hp]
          exact imD_sync _
        · rw [if_neg hp] at k1
          rw [if_neg hp, if_neg hp]
          have hw : wrE s.2 (nD s.2) (p.1 * 4) p.2.length = 0 := by
            unfold writeE at k1
            split at k1
            · assumption
            · exact k1
          rw [imD_write ok hw, show 64 * (p.1 * 4).toNat = 256 * p.1.toNat by omega]
      show imS (imD (oneD s.2 p)) r = imS (imD s.2) (p :: r)
      rw [key]
      rfl
    · have e : stp s p = s := if_neg h0
      rw [e, stp_stop s h0] at h
      exact absurd h h0
theorem run_row {L : List (Int × List UInt8)} {i : Int} {s : Int × DV} (ok : s.2.ok (nD s.2)) (h : ((L ++ [(i, [])]).foldl stp s).1 = 0) : ((L ++ [(i, [])]).foldl stp s).2.row = [] := by
  rw [List.foldl_append] at h ⊢
  by_cases h0 : (L.foldl stp s).1 = 0
  · have e : [(i, ([] : List UInt8))].foldl stp (L.foldl stp s) = (syncE (L.foldl stp s).2, syncD (L.foldl stp s).2) := by
      have e : stp (L.foldl stp s) (i, []) = (oneE (L.foldl stp s).2 (i, []), oneD (L.foldl stp s).2 (i, [])) := if_pos h0
      exact e
    rw [e] at h ⊢
    exact sync_row h
  · rw [stp_stop _ h0] at h
    exact absurd h h0
theorem fits_away {P : List UInt8 → Prop} {s j : Nat} (hj : j < 4) {p : Int × List UInt8} (h : p.2.length = 0 ∨ s < p.1.toNat ∨ p.1.toNat + p.2.length / 256 ≤ s) (hm : p.2.length % 256 = 0) : Fits P (4 * s + j) p := by
  rcases h with h | h
  · exact .inl h
  · refine .inr fun i hi e => ?_
    exfalso
    omega
theorem fits_page {P : List UInt8 → Prop} {s j : Nat} (hj : j < 4) {t : Int} {b : List UInt8} (hb : b.length = 256) (hP : P (sgk b j)) (ht : t.toNat = s) : Fits P (4 * s + j) (t, b) := by
  refine .inr fun i hi e => ?_
  have hi : i < b.length / 64 := hi
  have e : (t * 4).toNat + i = 4 * s + j := e
  have : i = j := by omega
  rw [this]
  exact hP
/-- A disk before a commit into slot s: in the other slot stands O; in this one sectors of X, or zeros. -/
structure Rest (O X : List UInt8) (s : Nat) (d : DV) : Prop where
  ok : d.ok (nD d)
  n : 8 ≤ nD d
  fix : ∀ j, j < 4 → Sec (fun z => z = sgk O j) (4 * (1 - s) + j) d
  mix : ∀ j, j < 4 → Sec (fun z => z = sgk X j ∨ z = z64s) (4 * s + j) d
/-- A page of sectors. -/
theorem page_of {d : DV} {k : Nat} {O : List UInt8} (ok : d.ok (nD d)) (hn : 4 * k + 4 ≤ nD d) (hO : O.length = 256) (hr : d.row = []) (h : ∀ j, j < 4 → Sec (fun z => z = sgk O j) (4 * k + j) d) : pgB (imD d) k = O := by
  have hi : imD d = d.l := by unfold imD; rw [hr]; rfl
  rw [hi]
  refine page_eq ?_ hO fun j hj => ?_
  · unfold pgB
    rw [List.length_take, List.length_drop, ok.len]
    omega
  · rw [sgk_page _ _ _ hj]
    exact (h j hj).1
theorem secs_of {d : DV} {k : Nat} {O : List UInt8} (hr : d.row = []) (h : pgB (imD d) k = O) {j : Nat} (hj : j < 4) : Sec (fun z => z = sgk O j) (4 * k + j) d := by
  have hi : imD d = d.l := by unfold imD; rw [hr]; rfl
  rw [hi] at h
  refine ⟨?_, fun p hp => by rw [hr] at hp; cases hp⟩
  show sgk d.l (4 * k + j) = sgk O j
  rw [← sgk_page _ _ _ hj, h]
theorem lim_growD (d : DV) (k : Int) : (growD d k).limit = d.limit := by unfold growD; split <;> rfl
/-- One commit that may go down. -/
theorem stage {O X : List UInt8} {s : Nat} {d : DV} (h : Rest O X s d) (hd : d.down = false) {l : List (Int × List UInt8)} {m : MV} (hr : prgB l m = true) (hl : 4 * m.pg ≤ d.limit) (hs : (m.tx % 2).toNat = s) :
    (commitS d l m).2.ok (nD (commitS d l m).2) ∧ 8 ≤ nD (commitS d l m).2 ∧ (∀ j, j < 4 → Sec (fun z => z = sgk O j) (4 * (1 - s) + j) (commitS d l m).2) ∧
    ((∀ j, j < 4 → Sec (fun z => z = sgk X j ∨ z = z64s) (4 * s + j) (commitS d l m).2) ∨ ∀ j, j < 4 → Sec (fun z => z = sgk (encM m) j ∨ z = z64s) (4 * s + j) (commitS d l m).2) ∧
    ((commitS d l m).1 = 0 → (commitS d l m).2.row = [] ∧ pgB (imD (commitS d l m).2) s = encM m) := by
  have hb := prgB_pg hr
  have hs2 : s < 2 := by rw [← hs]; exact slot_lt _
  have he := encM_len (right_of hr)
  have hz : (List.replicate 256 (0 : UInt8)).length = 256 := List.length_replicate
  have hin := prgB_in hr
  have hm256 : ∀ p ∈ l, p.2.length % 256 = 0 := fun p hp => (prgB_mem hr p hp).2.2.1
  have gE : growE d (m.pg * 4) = 0 := by
    unfold growE
    rw [if_neg (by rw [hd]; decide), if_neg (by omega)]
  obtain ⟨g, hg⟩ : ∃ g, growD d (m.pg * 4) = g := ⟨_, rfl⟩
  have gok : g.ok (nD g) ∧ nD g = nD d + ((m.pg * 4).toNat - nD d) := by
    have := growD_ok h.ok (m.pg * 4)
    rw [gE, if_pos rfl, hg] at this
    exact this
  have h8 := h.n
  have gfix : ∀ j, j < 4 → Sec (fun z => z = sgk O j) (4 * (1 - s) + j) g := fun j hj => by rw [← hg]; exact (h.fix j hj).grow h.ok (by omega) _
  have gmix : ∀ j, j < 4 → Sec (fun z => z = sgk X j ∨ z = z64s) (4 * s + j) g := fun j hj => by rw [← hg]; exact (h.mix j hj).grow h.ok (by omega) _
  have ec : commitS d l m = (([(m.tx % 2, List.replicate 256 0)] ++ l ++ [(0, [])]) ++ ([(m.tx % 2, encM m)] ++ [(0, [])])).foldl stp (0, g) := by
    have e1 : commitS d l m = allS d m.pg (commitL l m) := if_pos hr
    rw [e1, commit_form]
    unfold allS
    rw [gE, hg, List.append_assoc ([(m.tx % 2, List.replicate 256 0)] ++ l ++ [(0, [])])]
  rw [List.foldl_append] at ec
  obtain ⟨A, hA⟩ : ∃ A, [(m.tx % 2, List.replicate 256 (0 : UInt8))] ++ l = A := ⟨_, rfl⟩
  rw [hA] at ec
  have hfA : ∀ (P : List UInt8 → Prop) (t j : Nat), t < 2 → j < 4 → (t = s → P z64s) → ∀ p ∈ A ++ [(0, [])], Fits P (4 * t + j) p := fun P t j ht hj hP p hp => by
    rcases List.mem_append.1 hp with hp | hp
    · rw [← hA] at hp
      rcases List.mem_append.1 hp with hp | hp
      · obtain rfl := List.mem_singleton.1 hp
        by_cases e : t = s
        · exact fits_page hj hz (by rw [sgk_zeros (by omega)]; exact hP e) (by rw [hs, e])
        · exact fits_away hj (.inr (by rw [hz, hs]; omega)) (by rw [hz])
      · exact fits_away hj (hin.2 t ht p hp) (hm256 p hp)
    · obtain rfl := List.mem_singleton.1 hp
      exact .inl rfl
  have hfB : ∀ (P : List UInt8 → Prop) (t j : Nat), t < 2 → j < 4 → (t = s → P (sgk (encM m) j)) → ∀ p ∈ [(m.tx % 2, encM m)] ++ [(0, [])], Fits P (4 * t + j) p := fun P t j ht hj hP p hp => by
    rcases List.mem_append.1 hp with hp | hp
    · obtain rfl := List.mem_singleton.1 hp
      by_cases e : t = s
      · exact fits_page hj he (hP e) (by rw [hs, e])
      · exact fits_away hj (.inr (by show t < (m.tx % 2).toNat ∨ (m.tx % 2).toNat + (encM m).length / 256 ≤ t; rw [hs, he]; omega)) (by rw [he])
    · obtain rfl := List.mem_singleton.1 hp
      exact .inl rfl
  obtain ⟨s1, hs1⟩ : ∃ x, (A ++ [(0, [])]).foldl stp (0, g) = x := ⟨_, rfl⟩
  rw [hs1] at ec
  have o1 : ((A ++ [(0, [])]).foldl stp (0, g)).2.ok (nD ((A ++ [(0, [])]).foldl stp (0, g)).2) ∧ nD ((A ++ [(0, [])]).foldl stp (0, g)).2 = nD g := run_ok (A ++ [(0, [])]) (0, g) gok.1
  have f1 : ∀ j, j < 4 → Sec (fun z => z = sgk O j) (4 * (1 - s) + j) s1.2 := fun j hj => by rw [← hs1]; exact run_sec _ (0, g) gok.1 (gfix j hj) (hfA _ (1 - s) j (by omega) hj (fun e => by omega))
  have m1 : ∀ j, j < 4 → Sec (fun z => z = sgk X j ∨ z = z64s) (4 * s + j) s1.2 := fun j hj => by rw [← hs1]; exact run_sec _ (0, g) gok.1 (gmix j hj) (hfA _ s j hs2 hj (fun _ => .inr rfl))
  rw [hs1] at o1
  by_cases h0 : s1.1 = 0
  · have im1 := (run_im (A ++ [(0, [])]) (0, g) gok.1 (by rw [hs1]; exact h0)).2
    have r1 := run_row (L := A) (i := 0) (s := (0, g)) gok.1 (by rw [hs1]; exact h0)
    rw [hs1] at im1 r1
    have hx : 256 * m.pg.toNat ≤ (imD g).length := by rw [imD_len gok.1, gok.2]; omega
    have i1 : InP m.pg.toNat [(m.tx % 2, List.replicate 256 (0 : UInt8))] := inP_one hz (by omega) (by omega)
    have x1 : (imS (imD g) [(m.tx % 2, List.replicate 256 (0 : UInt8))]).length = (imD g).length := imS_len _ _ hx i1
    have p1 : pgB (imD s1.2) s = List.replicate 256 0 := by
      rw [im1, ← hA, imS_app, imS_away (n := m.pg.toNat) s _ _ (by rw [imS_app, imS_len _ _ (by rw [x1]; exact hx) hin.1, x1]; exact hx) (inP_sync _ _) (away_sync _ _), imS_app, imS_away (n := m.pg.toNat) s _ _ (by rw [x1]; exact hx) hin.1 (hin.2 s hs2), imS_one _ _ _ (by rw [hz]; decide), hs, pgB_in _ _ _ (by rw [hz]; show 256 * s + 256 ≤ (imD g).length; omega) hz]
    have m2 : ∀ j, j < 4 → Sec (fun z => z = sgk (encM m) j ∨ z = z64s) (4 * s + j) s1.2 := fun j hj => (secs_of r1 p1 hj).mono fun z e => .inr (by rw [e, sgk_zeros (by omega)])
    have o2 := run_ok ([(m.tx % 2, encM m)] ++ [(0, [])]) s1 o1.1
    rw [ec]
    refine ⟨o2.1, by rw [o2.2, o1.2, gok.2]; omega, fun j hj => run_sec _ _ o1.1 (f1 j hj) (hfB _ (1 - s) j (by omega) hj (fun e => by omega)), .inr fun j hj => run_sec _ _ o1.1 (m2 j hj) (hfB _ s j hs2 hj (fun _ => .inl rfl)), fun hz0 => ?_⟩
    refine ⟨run_row o1.1 hz0, ?_⟩
    have hx1 : 256 * m.pg.toNat ≤ (imD s1.2).length := by rw [imD_len o1.1, o1.2, gok.2]; omega
    have i2 : InP m.pg.toNat [(m.tx % 2, encM m)] := inP_one he (by omega) (by omega)
    rw [(run_im _ _ o1.1 hz0).2, imS_app, imS_away (n := m.pg.toNat) s _ _ (by rw [imS_len _ _ hx1 i2]; exact hx1) (inP_sync _ _) (away_sync _ _), imS_one _ _ _ (by omega), hs, pgB_in _ _ _ (by omega) he]
  · rw [stp_stop s1 h0] at ec
    rw [ec]
    exact ⟨o1.1, by rw [o1.2, gok.2]; omega, f1, .inl m1, fun q => absurd q h0⟩
theorem Rest.crash {O X : List UInt8} {s : Nat} {d : DV} (h : Rest O X s d) (ks : List Bool) : Rest O X s (crashD d ks) :=
  ⟨(crashD_ok h.ok ks).1, by rw [(crashD_ok h.ok ks).2]; exact h.n, fun j hj => (h.fix j hj).crash h.ok ks, fun j hj => (h.mix j hj).crash h.ok ks⟩
theorem arm_ok {d : DV} (ok : d.ok (nD d)) (k : Int) : (armD d k).ok (nD (armD d k)) := ⟨ok.len, ok.each, ok.lim0, ok.lim, by show -1 ≤ (if k < -1 then -1 else k); split <;> omega⟩
theorem Rest.arm {O X : List UInt8} {s : Nat} {d : DV} (h : Rest O X s d) (k : Int) : Rest O X s (armD d k) := ⟨arm_ok h.ok k, h.n, h.fix, h.mix⟩
theorem stp_lim (s : Int × DV) (p : Int × List UInt8) : (stp s p).2.limit = s.2.limit := by
  unfold stp
  split
  · show (oneD s.2 p).limit = _
    unfold oneD syncD writeD
    split
    · split
      · rfl
      · split <;> rfl
    · split <;> rfl
  · rfl
theorem run_lim : ∀ (L : List (Int × List UInt8)) (s : Int × DV), (L.foldl stp s).2.limit = s.2.limit
  | [], _ => rfl
  | p :: r, s => by rw [List.foldl_cons, run_lim r, stp_lim]
theorem commit_lim (d : DV) (l : List (Int × List UInt8)) (m : MV) : (commitS d l m).2.limit = d.limit := by
  unfold commitS
  split
  · unfold allS
    rw [run_lim]
    exact lim_growD _ _
  · rfl
theorem noughts {m : MV} (h : mrightB m.ge m.ph m.tg m.tx m.rt m.pg m.li m.cu.length = true) : ((encM m).drop 64).take 128 = List.replicate 128 0 := by
  unfold encM
  rw [enc_eq h]
  exact encR_noughts h
theorem was_ok {m : MV} (h : mrightB m.ge m.ph m.tg m.tx m.rt m.pg m.li m.cu.length = true) (h2 : 2 ≤ m.tx) : mrightB m.was.ge m.was.ph m.was.tg m.was.tx m.was.rt m.was.pg m.was.li m.was.cu.length = true := was_right h h2
/-- What a disk tells, in whose one slot stands a meta, in the other one sectors of another one, or zeros. -/
theorem newest_mix {d : DV} {o x : MV} {s : Nat} (h : Rest (encM o) (encM x) s d) (hd : d.down = false) (hr : d.row = []) (ho : mrightB o.ge o.ph o.tg o.tx o.rt o.pg o.li o.cu.length = true) (hx : mrightB x.ge x.ph x.tg x.tx x.rt x.pg x.li x.cu.length = true)
    (hs : (x.tx % 2).toNat = s) (hos : (o.tx % 2).toNat = 1 - s) (hs2 : s < 2) (hne : x.tx ≠ o.tx) :
    newE d = 0 ∧ (newM d = o ∨ newM d = x) ∧ (o.tx < x.tx → pgB (imD d) s = encM x → newM d = x) ∧ (x.tx < o.tx → newM d = o) := by
  have hn := h.n
  have hO : pgB (imD d) (1 - s) = encM o := page_of h.ok (by omega) (encM_len ho) hr h.fix
  have hi : imD d = d.l := by unfold imD; rw [hr]; rfl
  have hyl : (pgB (imD d) s).length = 256 := by
    unfold pgB
    rw [List.length_take, List.length_drop, hi, h.ok.len]
    omega
  have hy := mix_dec (encM_len hx) (noughts hx) hyl (fun j hj => by rw [sgk_page _ _ _ hj, hi]; exact (h.mix j hj).1)
  have hso : 1 - (o.tx % 2).toNat = s := by omega
  have hsx : 1 - (x.tx % 2).toNat = 1 - s := by omega
  have old : (decE (pgB (imD d) s) = 0 → rdTx (pgB (imD d) s) < o.tx) → newE d = 0 ∧ newM d = o := fun q => by
    obtain ⟨_, a, b⟩ := newest_at h.ok hd hn ho (by rw [hos]; exact hO) (fun e _ => by rw [hso] at e ⊢; exact q e)
    exact ⟨a, b⟩
  rcases hy with hy | hy
  · by_cases hlt : o.tx < x.tx
    · obtain ⟨_, a, b⟩ := newest_at h.ok hd hn hx (by rw [hs]; exact hy) (fun _ _ => by rw [hsx, hO, (encM_dec ho).2.2]; exact hlt)
      exact ⟨a, .inr b, fun _ _ => b, fun q => by omega⟩
    · obtain ⟨a, b⟩ := old (fun _ => by rw [hy, (encM_dec hx).2.2]; omega)
      exact ⟨a, .inl b, fun q => absurd q hlt, fun _ => b⟩
  · obtain ⟨a, b⟩ := old (fun e => by rw [hy] at e; exact absurd e (by decide))
    exact ⟨a, .inl b, fun _ e => by rw [e, (encM_dec hx).1] at hy; exact absurd hy (by decide), fun _ => b⟩
/-- What two commits that may go down leave. -/
structure Again (old m n : MV) (l more : List (Int × List UInt8)) (fu fv : Int) (ks js : List Bool) (d1 d3 d5 : DV) (e f : Int) : Prop where
  fm : formatS (newDV 400) [] old = (0, d1)
  u1 : Up d1
  r1 : d1.row = []
  o1 : d1.ops = 3
  c1 : e = (commitS (armD d1 fu) l m).1
  q3 : d3 = crashD (commitS (armD d1 fu) l m).2 ks
  c2 : f = (commitS (armD d3 fv) more n).1
  q5 : d5 = crashD (commitS (armD d3 fv) more n).2 js
  ne : newE d5 = 0
  nm : newM d5 = old ∨ newM d5 = m ∨ newM d5 = n
  ok : f = 0 → newM d5 = n
theorem again_ok {old m n : MV} {l more : List (Int × List UInt8)} (h0 : prgB [] old = true) (h2 : 2 ≤ old.tx) (hm : m.tx = old.tx + 1) (hn : n.tx = old.tx + 1) (h1 : prgB l m = true) (h3 : prgB more n = true) (p0 : old.pg ≤ 40) (p1 : m.pg ≤ 40) (p2 : n.pg ≤ 40) (fu fv : Int) (ks js : List Bool) :
    ∃ d1 d3 d5 e f, Again old m n l more fu fv ks js d1 d3 d5 e f := by
  have hlm : limI 400 = 400 := by decide
  have hb := prgB_pg h0
  have hol := right_of h0
  obtain ⟨k1, k2, k3, k4, _⟩ := format_ok (newDV_up 400) h0 h2 (by show 4 * old.pg ≤ limI 400; omega)
  obtain ⟨d1, hd1⟩ : ∃ x, (formatS (newDV 400) [] old).2 = x := ⟨_, rfl⟩
  rw [hd1] at k2 k3 k4
  have hn0 : nD (newDV 400) = 0 := by simp [nD, newDV]
  have hn1 : nD d1 = 4 * old.pg.toNat := by rw [k2.n, hn0]; omega
  have hl1 : d1.limit = 400 := by rw [k2.lim]; exact hlm
  obtain ⟨s, hs⟩ : ∃ s, 1 - (old.tx % 2).toNat = s := ⟨_, rfl⟩
  have hot := slot_lt old.tx
  have hs2 : s < 2 := by omega
  have hos : (old.tx % 2).toNat = 1 - s := by omega
  have hms : (m.tx % 2).toNat = s := by rw [hm]; omega
  have hns : (n.tx % 2).toNat = s := by rw [hn]; omega
  have hws : (old.was.tx % 2).toNat = s := by show ((old.tx - 1) % 2).toNat = s; omega
  have hwr := was_ok hol h2
  rw [hos] at k3
  rw [hs] at k4
  have R1 : Rest (encM old) (encM old.was) s (armD d1 fu) := Rest.arm ⟨k2.up.ok, by omega, fun j hj => secs_of k2.row k3 hj, fun j hj => (secs_of k2.row k4 hj).mono fun z e => .inl e⟩ fu
  obtain ⟨a1, a2, a3, a4, _⟩ := stage R1 k2.up.up h1 (by show 4 * m.pg ≤ d1.limit; omega) hms
  obtain ⟨x, hx, hxs, hxr, hxn⟩ : ∃ x : MV, (∀ j, j < 4 → Sec (fun z => z = sgk (encM x) j ∨ z = z64s) (4 * s + j) (commitS (armD d1 fu) l m).2) ∧ (x = old.was ∨ x = m) ∧ mrightB x.ge x.ph x.tg x.tx x.rt x.pg x.li x.cu.length = true ∧ (x.tx % 2).toNat = s := by
    rcases a4 with a4 | a4
    · exact ⟨old.was, a4, .inl rfl, hwr, hws⟩
    · exact ⟨m, a4, .inr rfl, right_of h1, hms⟩
  have R2 : Rest (encM old) (encM x) s (crashD (commitS (armD d1 fu) l m).2 ks) := Rest.crash ⟨a1, a2, a3, hx⟩ ks
  have hl3 : (crashD (commitS (armD d1 fu) l m).2 ks).limit = 400 := (commit_lim (armD d1 fu) l m).trans hl1
  obtain ⟨d3, hd3⟩ : ∃ d, crashD (commitS (armD d1 fu) l m).2 ks = d := ⟨_, rfl⟩
  have hdn : d3.down = false := by rw [← hd3]; rfl
  rw [hd3] at R2 hl3
  obtain ⟨b1, b2, b3, b4, b5⟩ := stage (R2.arm fv) hdn h3 (by show 4 * n.pg ≤ d3.limit; omega) hns
  obtain ⟨y, hy, hys, hyr, hyn⟩ : ∃ y : MV, (∀ j, j < 4 → Sec (fun z => z = sgk (encM y) j ∨ z = z64s) (4 * s + j) (commitS (armD d3 fv) more n).2) ∧ (y = old.was ∨ y = m ∨ y = n) ∧ mrightB y.ge y.ph y.tg y.tx y.rt y.pg y.li y.cu.length = true ∧ (y.tx % 2).toNat = s := by
    rcases b4 with b4 | b4
    · exact ⟨x, b4, hxs.imp id .inl, hxr, hxn⟩
    · exact ⟨n, b4, .inr (.inr rfl), right_of h3, hns⟩
  have R3 : Rest (encM old) (encM y) s (crashD (commitS (armD d3 fv) more n).2 js) := Rest.crash ⟨b1, b2, b3, hy⟩ js
  have hyt : y.tx ≠ old.tx := by
    rcases hys with e | e | e <;> rw [e]
    · show old.tx - 1 ≠ old.tx; omega
    · omega
    · omega
  obtain ⟨c1, c2, c3, c4⟩ := newest_mix R3 rfl rfl hol hyr hyn hos hs2 hyt
  refine ⟨d1, d3, _, _, _, Prod.ext k1 hd1, k2.up, k2.row, by rw [k2.ops]; rfl, rfl, hd3.symm, rfl, rfl, c1, ?_, fun hf => ?_⟩
  · rcases c2 with c2 | c2
    · exact .inl c2
    · rcases hys with e | e | e
      · refine .inl (c4 ?_)
        rw [e]
        show old.tx - 1 < old.tx
        omega
      · exact .inr (.inl (c2.trans e))
      · exact .inr (.inr (c2.trans e))
  · obtain ⟨f1, f2⟩ := b5 hf
    have hc : crashD (commitS (armD d3 fv) more n).2 js = { (commitS (armD d3 fv) more n).2 with down := false, fuse := -1 } := by
      unfold crashD
      rw [f1]
      show _ = DV.mk _ _ (commitS (armD d3 fv) more n).2.row _ _ _
      rw [f1]
      rfl
    have hp : pgB (imD (crashD (commitS (armD d3 fv) more n).2 js)) s = encM n := by rw [hc]; exact f2
    have R4 : Rest (encM old) (encM n) s (crashD (commitS (armD d3 fv) more n).2 js) := ⟨R3.ok, R3.n, R3.fix, fun j hj => (secs_of rfl hp hj).mono fun z e => .inl e⟩
    exact (newest_mix R4 rfl rfl hol (right_of h3) hns hos hs2 (by omega)).2.2.1 (by omega) hp
end Go.Proofs.Ythhalmjapiempaa
