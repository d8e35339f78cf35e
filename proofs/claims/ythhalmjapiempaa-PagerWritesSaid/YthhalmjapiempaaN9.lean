/- Plain laws of Commit, Format and Newest on a disk that nothing brings down. -/
import Derived.Test.YthhalmjapiempaaN8
set_option linter.unusedVariables false
set_option linter.unusedSimpArgs false
namespace Go.Proofs.Ythhalmjapiempaa
open Go.RowKit

theorem imS_app (x : List UInt8) (a b : List (Int × List UInt8)) : imS x (a ++ b) = imS (imS x a) b := by simp [imS]
theorem imS_len {n : Nat} : ∀ (l : List (Int × List UInt8)) (x : List UInt8), 256 * n ≤ x.length → InP n l → (imS x l).length = x.length
  | [], _, _, _ => rfl
  | p :: r, x, hx, h => by
    have hr : InP n r := fun q hq => h q (List.mem_cons_of_mem _ hq)
    by_cases h0 : p.2.length = 0
    · rw [show imS x (p :: r) = imS x r from by unfold imS; rw [List.foldl_cons, if_pos h0]]
      exact imS_len r x hx hr
    · have hq := (h p List.mem_cons_self).resolve_left h0
      have hl := putL_length x p.2 (256 * p.1.toNat) (by omega)
      rw [show imS x (p :: r) = imS (putL x p.2 (256 * p.1.toNat)) r from by unfold imS; rw [List.foldl_cons, if_neg h0]]
      rw [imS_len r _ (by omega) hr, hl]
/-- No op writes this page. -/
def Away (k : Nat) (l : List (Int × List UInt8)) : Prop := ∀ p ∈ l, p.2.length = 0 ∨ k < p.1.toNat ∨ p.1.toNat + p.2.length / 256 ≤ k
theorem imS_away {n : Nat} (k : Nat) : ∀ (l : List (Int × List UInt8)) (x : List UInt8), 256 * n ≤ x.length → InP n l → Away k l → pgB (imS x l) k = pgB x k
  | [], _, _, _, _ => rfl
  | p :: r, x, hx, h, ha => by
    have hr : InP n r := fun q hq => h q (List.mem_cons_of_mem _ hq)
    have har : Away k r := fun q hq => ha q (List.mem_cons_of_mem _ hq)
    by_cases h0 : p.2.length = 0
    · rw [show imS x (p :: r) = imS x r from by unfold imS; rw [List.foldl_cons, if_pos h0]]
      exact imS_away k r x hx hr har
    · have hq := (h p List.mem_cons_self).resolve_left h0
      have hk := (ha p List.mem_cons_self).resolve_left h0
      have hl := putL_length x p.2 (256 * p.1.toNat) (by omega)
      rw [show imS x (p :: r) = imS (putL x p.2 (256 * p.1.toNat)) r from by unfold imS; rw [List.foldl_cons, if_neg h0]]
      rw [imS_away k r _ (by omega) hr har, pgB_away _ _ _ _ (by omega) (by omega)]
theorem imS_one (x : List UInt8) (i : Int) (b : List UInt8) (h : b.length ≠ 0) : imS x [(i, b)] = putL x b (256 * i.toNat) := by
  unfold imS
  rw [List.foldl_cons, List.foldl_nil, if_neg h]
theorem encM_len {m : MV} (h : mrightB m.ge m.ph m.tg m.tx m.rt m.pg m.li m.cu.length = true) : (encM m).length = 256 := by
  unfold encM
  rw [enc_eq h]
  exact (encR_read h).1
theorem encM_dec {m : MV} (h : mrightB m.ge m.ph m.tg m.tx m.rt m.pg m.li m.cu.length = true) : decE (encM m) = 0 ∧ mvOf (encM m) = m ∧ rdTx (encM m) = m.tx := by
  obtain ⟨ge, ph, tg, tx, rt, pg, li, cu⟩ := m
  obtain ⟨k0, k1, k2, k3, k4, k5, k6, k7, k8, k9⟩ := encR_read h
  obtain ⟨r0, r1, r2, r3, r4, r5, r6, r7⟩ := rd_rf k9
  have e : encM ⟨ge, ph, tg, tx, rt, pg, li, cu⟩ = encR ge ph tg tx rt pg li cu := enc_eq h
  rw [e]
  refine ⟨by rw [dec_ref]; exact k9, ?_, by rw [r3, k4]⟩
  unfold mvOf
  rw [r0, r1, r2, r3, r4, r5, r6, r7, k1, k2, k3, k4, k5, k6, k7, k8]
theorem ch_one {x y : List UInt8} (h : decE y = 0) (h1 : rdTx y % 2 = 1) (h2 : decE x = 0 → rdTx x % 2 = 0 → rdTx x < rdTx y) : chP x y = 1 := if_pos ⟨h, h1, fun q => h2 q.1 q.2⟩
theorem ch_nought {x y : List UInt8} (h : decE x = 0) (h1 : rdTx x % 2 = 0) (h2 : decE y = 0 → rdTx y % 2 = 1 → rdTx y < rdTx x) : chP x y = 0 := by
  unfold chP chAt
  rw [if_neg (fun q => by have := h2 q.1 q.2.1; have := q.2.2 ⟨h, h1⟩; omega), if_pos ⟨h, h1⟩]
theorem slot_cases (t : Int) : (t % 2 = 0 ∧ (t % 2).toNat = 0) ∨ (t % 2 = 1 ∧ (t % 2).toNat = 1) := by omega
/-- The newest meta. -/
theorem newest_at {d : DV} (ok : d.ok (nD d)) (hd : d.down = false) (h8 : 8 ≤ nD d) {m : MV} (hm : mrightB m.ge m.ph m.tg m.tx m.rt m.pg m.li m.cu.length = true) (hs : pgB (imD d) (m.tx % 2).toNat = encM m)
    (ho : decE (pgB (imD d) (1 - (m.tx % 2).toNat)) = 0 → rdTx (pgB (imD d) (1 - (m.tx % 2).toNat)) % 2 = 1 - m.tx % 2 → rdTx (pgB (imD d) (1 - (m.tx % 2).toNat)) < m.tx) :
    newAt d = m.tx % 2 ∧ newE d = 0 ∧ newM d = m := by
  have s0 := (some_page ok hd 0 (by omega) (by omega)).1
  have s1 := (some_page ok hd 1 (by omega) (by omega)).1
  obtain ⟨k1, k2, k3⟩ := encM_dec hm
  have hnd : ¬ (d.down = true) := by rw [hd]; decide
  have c0 : someB d 0 1 = pgB (imD d) 0 := s0
  have c1 : someB d 1 1 = pgB (imD d) 1 := s1
  unfold newAt newE newM
  rw [if_neg hnd, if_neg hnd, if_neg hnd, c0, c1]
  rcases slot_cases m.tx with ⟨e, e2⟩ | ⟨e, e2⟩
  · rw [e2] at hs ho
    have hc : chP (pgB (imD d) 0) (pgB (imD d) 1) = 0 := ch_nought (by rw [hs]; exact k1) (by rw [hs, k3]; exact e) (fun q1 q2 => by rw [hs, k3]; exact ho q1 (by rw [e]; exact q2))
    rw [hc, if_neg (by decide), if_pos rfl, hs, e]
    exact ⟨rfl, rfl, k2⟩
  · rw [e2] at hs ho
    have hc : chP (pgB (imD d) 0) (pgB (imD d) 1) = 1 := ch_one (by rw [hs]; exact k1) (by rw [hs, k3]; exact e) (fun q1 q2 => by rw [hs, k3]; exact ho q1 (by rw [e]; exact q2))
    rw [hc, if_neg (by decide), if_neg (by decide), if_pos rfl, hs, e]
    exact ⟨rfl, rfl, k2⟩
theorem right_of {l : List (Int × List UInt8)} {m : MV} (h : prgB l m = true) : mrightB m.ge m.ph m.tg m.tx m.rt m.pg m.li m.cu.length = true := by
  unfold prgB at h
  rw [Bool.and_eq_true] at h
  exact h.2
theorem prgB_in {l : List (Int × List UInt8)} {m : MV} (h : prgB l m = true) : InP m.pg.toNat l ∧ ∀ k, k < 2 → Away k l := by
  have hm := h
  unfold prgB at hm
  rw [Bool.and_eq_true] at hm
  have key : ∀ q ∈ l, 2 ≤ q.1 ∧ q.2.length % 256 = 0 ∧ q.1.toNat + q.2.length / 256 ≤ m.pg.toNat := fun q hq => by
    have := of_decide_eq_true (prW_mem _ _ _ hm.1 q hq)
    omega
  exact ⟨fun q hq => .inr (by have := key q hq; omega), fun k hk q hq => .inr (by have := key q hq; omega)⟩
theorem prgB_pg {l : List (Int × List UInt8)} {m : MV} (h : prgB l m = true) : 3 ≤ m.pg ∧ m.pg ≤ 16384 ∧ 1 ≤ m.tx ∧ m.tx ≤ 2147483647 := by
  have := right_bounds (right_of h)
  omega
/-- What stands behind ops that went well, the last of them a sync. -/
structure Done (d d' : DV) (pg : Int) (k : Nat) (L : List (Int × List UInt8)) : Prop where
  up : Up d'
  n : nD d' = nD d + (4 * pg.toNat - nD d)
  im : imD d' = imS (imD d ++ List.replicate (64 * (4 * pg.toNat - nD d)) 0) L
  ops : d'.ops = d.ops + (k : Int)
  lim : d'.limit = d.limit
  row : d'.row = []
theorem all_ok {d : DV} (h : Up d) {pg : Int} (hp : 0 ≤ pg) (hl : 4 * pg ≤ d.limit) {L : List (Int × List UInt8)} (hi : InP pg.toNat L) (i : Int) : (allS d pg (L ++ [(i, [])])).1 = 0 ∧ Done d (allS d pg (L ++ [(i, [])])).2 pg (L.length + 1) (L ++ [(i, [])]) := by
  obtain ⟨g1, g2, g3, g4, g5, g6⟩ := h.grow (k := pg * 4) (by omega)
  have hL : InP pg.toNat (L ++ [(i, [])]) := fun q hq => by
    rcases List.mem_append.1 hq with hq | hq
    · exact hi q hq
    · obtain rfl := List.mem_singleton.1 hq
      exact .inl rfl
  have e4 : (pg * 4).toNat = 4 * pg.toNat := by omega
  rw [e4] at g3 g4
  obtain ⟨k1, k2, k3, k4, k5, k6⟩ := Up.all (n := pg.toNat) (L ++ [(i, [])]) _ g2 (by omega) hL
  obtain ⟨j1, j2, j3, j4, j5, j6⟩ := Up.all (n := pg.toNat) L _ g2 (by omega) hi
  have eA : allS d pg (L ++ [(i, [])]) = (L ++ [(i, [])]).foldl stp (0, growD d (pg * 4)) := by unfold allS; rw [g1]
  rw [eA]
  refine ⟨k1, k2, by omega, by rw [k4, g4], by rw [k5, g5, List.length_append]; rfl, by rw [k6, g6], ?_⟩
  have e1 : (L ++ [(i, [])]).foldl stp (0, growD d (pg * 4)) = stp (L.foldl stp (0, growD d (pg * 4))) (i, []) := by rw [List.foldl_append]; rfl
  rw [e1, show L.foldl stp (0, growD d (pg * 4)) = (0, (L.foldl stp (0, growD d (pg * 4))).2) from Prod.ext j1 rfl]
  exact j2.sync.2.2.2.2.2.2
theorem slot_lt (t : Int) : (t % 2).toNat < 2 := by omega
theorem inP_app {n : Nat} {a b : List (Int × List UInt8)} (ha : InP n a) (hb : InP n b) : InP n (a ++ b) := fun q hq => (List.mem_append.1 hq).elim (ha q) (hb q)
theorem inP_one {n : Nat} {i : Int} {b : List UInt8} (hb : b.length = 256) (h0 : 0 ≤ i) (h1 : i.toNat < n) : InP n [(i, b)] := fun q hq => by
  obtain rfl := List.mem_singleton.1 hq
  exact .inr ⟨by show b.length % 256 = 0; omega, h0, by show i.toNat + b.length / 256 ≤ n; omega⟩
theorem inP_sync (n : Nat) (i : Int) : InP n [(i, [])] := fun q hq => by
  obtain rfl := List.mem_singleton.1 hq
  exact .inl rfl
theorem away_sync (k : Nat) (i : Int) : Away k [(i, [])] := fun q hq => by
  obtain rfl := List.mem_singleton.1 hq
  exact .inl rfl
theorem away_one {k : Nat} {i : Int} {b : List UInt8} (hb : b.length = 256) (h : k ≠ i.toNat) : Away k [(i, b)] := fun q hq => by
  obtain rfl := List.mem_singleton.1 hq
  exact .inr (by show k < i.toNat ∨ i.toNat + b.length / 256 ≤ k; omega)
theorem commit_form (l : List (Int × List UInt8)) (m : MV) : commitL l m = ([(m.tx % 2, List.replicate 256 0)] ++ l ++ [(0, [])] ++ [(m.tx % 2, encM m)]) ++ [(0, [])] := by
  unfold commitL
  generalize List.replicate 256 (0 : UInt8) = z
  simp only [List.append_assoc, List.cons_append, List.nil_append]
/-- A commit where there is room, and its pages. -/
theorem commit_ok {d : DV} (h : Up d) {l : List (Int × List UInt8)} {m : MV} (hr : prgB l m = true) (hl : 4 * m.pg ≤ d.limit) :
    (commitS d l m).1 = 0 ∧ Done d (commitS d l m).2 m.pg (l.length + 4) (commitL l m) ∧ pgB (imD (commitS d l m).2) (m.tx % 2).toNat = encM m ∧
    ∀ k, k ≠ (m.tx % 2).toNat → Away k l → pgB (imD (commitS d l m).2) k = pgB (imD d ++ List.replicate (64 * (4 * m.pg.toNat - nD d)) 0) k := by
  have hb := prgB_pg hr
  have he := encM_len (right_of hr)
  have hs := slot_lt m.tx
  have i1 : InP m.pg.toNat [(m.tx % 2, List.replicate 256 (0 : UInt8))] := inP_one (by rw [List.length_replicate]) (by omega) (by omega)
  have i2 : InP m.pg.toNat [(m.tx % 2, encM m)] := inP_one he (by omega) (by omega)
  have hA : InP m.pg.toNat ([(m.tx % 2, List.replicate 256 (0 : UInt8))] ++ l ++ [(0, [])]) := inP_app (inP_app i1 (prgB_in hr).1) (inP_sync _ _)
  have hi := inP_app hA i2
  obtain ⟨k1, k2⟩ := all_ok h (by omega) hl hi 0
  have ec : commitS d l m = allS d m.pg (([(m.tx % 2, List.replicate 256 0)] ++ l ++ [(0, [])] ++ [(m.tx % 2, encM m)]) ++ [(0, [])]) := by rw [← commit_form]; exact if_pos hr
  rw [ec]
  have hx : 256 * m.pg.toNat ≤ (imD d ++ List.replicate (64 * (4 * m.pg.toNat - nD d)) 0).length := by rw [List.length_append, List.length_replicate, imD_len h.ok]; omega
  have hxA := imS_len _ _ hx hA
  refine ⟨k1, ?_, ?_, ?_⟩
  · rw [commit_form]
    have e : ([(m.tx % 2, List.replicate 256 (0 : UInt8))] ++ l ++ [(0, [])] ++ [(m.tx % 2, encM m)]).length + 1 = l.length + 4 := by simp only [List.length_append, List.length_cons, List.length_nil]; omega
    rw [e] at k2
    exact k2
  · rw [k2.im, imS_app, imS_away (n := m.pg.toNat) _ _ _ (by rw [imS_len _ _ hx hi]; exact hx) (inP_sync _ _) (away_sync _ _), imS_app, imS_one _ _ _ (by omega), pgB_in _ _ _ (by omega) he]
  · intro k hk ha
    refine (congrArg (pgB · k) k2.im).trans (imS_away (n := m.pg.toNat) k _ _ hx (inP_app hi (inP_sync _ _)) ?_)
    intro q hq
    rcases List.mem_append.1 hq with hq | hq
    · rcases List.mem_append.1 hq with hq | hq
      · rcases List.mem_append.1 hq with hq | hq
        · rcases List.mem_append.1 hq with hq | hq
          · exact away_one (by rw [List.length_replicate]) hk q hq
          · exact ha q hq
        · exact away_sync _ _ q hq
      · exact away_one he hk q hq
    · exact away_sync _ _ q hq
theorem format_form (l : List (Int × List UInt8)) (m : MV) : formatL l m = ([((m.tx - 1) % 2, encM m.was)] ++ [(m.tx % 2, encM m)] ++ l) ++ [(0, [])] := by
  unfold formatL
  simp only [List.append_assoc, List.cons_append, List.nil_append]
/-- A format where there is room, and its pages. -/
theorem format_ok {d : DV} (h : Up d) {l : List (Int × List UInt8)} {m : MV} (hr : prgB l m = true) (ht : 2 ≤ m.tx) (hl : 4 * m.pg ≤ d.limit) :
    (formatS d l m).1 = 0 ∧ Done d (formatS d l m).2 m.pg (l.length + 3) (formatL l m) ∧ pgB (imD (formatS d l m).2) (m.tx % 2).toNat = encM m ∧ pgB (imD (formatS d l m).2) (1 - (m.tx % 2).toNat) = encM m.was ∧
    ∀ k, 2 ≤ k → Away k l → pgB (imD (formatS d l m).2) k = pgB (imD d ++ List.replicate (64 * (4 * m.pg.toNat - nD d)) 0) k := by
  have hb := prgB_pg hr
  have he := encM_len (right_of hr)
  have hw : (encM m.was).length = 256 := encM_len (was_right (right_of hr) ht)
  have hs := slot_lt m.tx
  have hsw : ((m.tx - 1) % 2).toNat = 1 - (m.tx % 2).toNat := by omega
  have i1 : InP m.pg.toNat [((m.tx - 1) % 2, encM m.was)] := inP_one hw (by omega) (by omega)
  have i2 : InP m.pg.toNat [(m.tx % 2, encM m)] := inP_one he (by omega) (by omega)
  have hA : InP m.pg.toNat ([((m.tx - 1) % 2, encM m.was)] ++ [(m.tx % 2, encM m)]) := inP_app i1 i2
  have hi := inP_app hA (prgB_in hr).1
  obtain ⟨k1, k2⟩ := all_ok h (by omega) hl hi 0
  have ec : formatS d l m = allS d m.pg (([((m.tx - 1) % 2, encM m.was)] ++ [(m.tx % 2, encM m)] ++ l) ++ [(0, [])]) := by rw [← format_form]; exact if_pos ⟨hr, by omega⟩
  rw [ec]
  have hx : 256 * m.pg.toNat ≤ (imD d ++ List.replicate (64 * (4 * m.pg.toNat - nD d)) 0).length := by rw [List.length_append, List.length_replicate, imD_len h.ok]; omega
  have hx1 := imS_len _ _ hx i1
  have hxA := imS_len _ _ hx hA
  have hxi := imS_len _ _ hx hi
  refine ⟨k1, ?_, ?_, ?_, ?_⟩
  · rw [format_form]
    have e : ([((m.tx - 1) % 2, encM m.was)] ++ [(m.tx % 2, encM m)] ++ l).length + 1 = l.length + 3 := by simp only [List.length_append, List.length_cons, List.length_nil]; omega
    rw [e] at k2
    exact k2
  · rw [k2.im, imS_app, imS_away (n := m.pg.toNat) _ _ _ (by rw [hxi]; exact hx) (inP_sync _ _) (away_sync _ _), imS_app, imS_away (n := m.pg.toNat) _ _ _ (by rw [hxA]; exact hx) (prgB_in hr).1 ((prgB_in hr).2 _ hs), imS_app, imS_one _ _ _ (by omega), pgB_in _ _ _ (by omega) he]
  · rw [k2.im, imS_app, imS_away (n := m.pg.toNat) _ _ _ (by rw [hxi]; exact hx) (inP_sync _ _) (away_sync _ _), imS_app, imS_away (n := m.pg.toNat) _ _ _ (by rw [hxA]; exact hx) (prgB_in hr).1 ((prgB_in hr).2 _ (by omega)), imS_app, imS_away (n := m.pg.toNat) _ _ _ (by rw [hx1]; exact hx) i2 (away_one he (by omega)), imS_one _ _ _ (by omega), hsw, pgB_in _ _ _ (by omega) hw]
  · intro k hk ha
    refine (congrArg (pgB · k) k2.im).trans (imS_away (n := m.pg.toNat) k _ _ hx (inP_app hi (inP_sync _ _)) ?_)
    intro q hq
    rcases List.mem_append.1 hq with hq | hq
    · rcases List.mem_append.1 hq with hq | hq
      · rcases List.mem_append.1 hq with hq | hq
        · exact away_one hw (by omega) q hq
        · exact away_one he (by omega) q hq
      · exact ha q hq
    · exact away_sync _ _ q hq
end Go.Proofs.Ythhalmjapiempaa
