/- Plain laws: writes that are right stay so in another order; with one of a page that is written already they are not. -/
import Derived.Test.YthhalmjapiempaaN9
set_option linter.unusedVariables false
set_option linter.unusedSimpArgs false
namespace Go.Proofs.Ythhalmjapiempaa
open Go.RowKit

/-- All pages of some writes. -/
def allP (l : List (Int × List UInt8)) : List Int := l.flatMap fun p => pgs p.1 (p.2.length / 256)
theorem allP_cons (p : Int × List UInt8) (r : List (Int × List UInt8)) : allP (p :: r) = pgs p.1 (p.2.length / 256) ++ allP r := rfl
theorem allP_append (a b : List (Int × List UInt8)) : allP (a ++ b) = allP a ++ allP b := by simp [allP]
theorem pgs_nodup (id : Int) : ∀ k, (pgs id k).Nodup
  | 0 => List.nodup_nil
  | k + 1 => by
    rw [pgs, List.nodup_append]
    refine ⟨pgs_nodup id k, by simp, fun a ha b hb => ?_⟩
    have := (pgs_mem id a k).1 ha
    obtain rfl := List.mem_singleton.1 hb
    omega
theorem prW_iff (pg : Int) : ∀ (l : List (Int × List UInt8)) (seen : List Int), prW pg seen l = true ↔ (∀ p ∈ l, formB pg p = true) ∧ (allP l).Nodup ∧ ∀ x ∈ allP l, x ∉ seen
  | [], seen => ⟨fun _ => ⟨fun p h => (by cases h), List.nodup_nil, fun x h => (by cases h)⟩, fun _ => rfl⟩
  | p :: r, seen => by
    rw [prW, Bool.and_eq_true, Bool.and_eq_true, prW_iff pg r, allP_cons, List.nodup_append]
    have hall : ((pgs p.1 (p.2.length / 256)).all (fun x => !seen.contains x) = true) ↔ ∀ x ∈ pgs p.1 (p.2.length / 256), x ∉ seen := by simp
    rw [hall]
    constructor
    · rintro ⟨⟨h1, h2⟩, h3, h4, h5⟩
      refine ⟨fun q hq => ?_, ⟨pgs_nodup _ _, h4, fun a ha b hb e => ?_⟩, fun x hx => ?_⟩
      · rcases List.mem_cons.1 hq with rfl | hq
        · exact h1
        · exact h3 q hq
      · subst e
        exact h5 a hb (List.mem_append_right _ ha)
      · rcases List.mem_append.1 hx with hx | hx
        · exact h2 x hx
        · exact fun q => h5 x hx (List.mem_append_left _ q)
    · rintro ⟨h1, ⟨_, h3, h4⟩, h5⟩
      refine ⟨⟨h1 p List.mem_cons_self, fun x hx => h5 x (List.mem_append_left _ hx)⟩, fun q hq => h1 q (List.mem_cons_of_mem _ hq), h3, fun x hx q => ?_⟩
      rcases List.mem_append.1 q with q | q
      · exact h5 x (List.mem_append_right _ hx) q
      · exact h4 x q x hx rfl
theorem prgB_swap (a b : List (Int × List UInt8)) (m : MV) : prgB (a ++ b) m = prgB (b ++ a) m := by
  have key : ∀ a b : List (Int × List UInt8), prW m.pg [] (a ++ b) = true → prW m.pg [] (b ++ a) = true := fun a b h => by
    rw [prW_iff, allP_append] at h ⊢
    obtain ⟨h1, h2, _⟩ := h
    refine ⟨fun p hp => h1 p ?_, ?_, fun x _ q => by cases q⟩
    · rcases List.mem_append.1 hp with hp | hp
      · exact List.mem_append_right _ hp
      · exact List.mem_append_left _ hp
    · exact (List.perm_append_comm.nodup_iff).1 h2
  have e : prW m.pg [] (a ++ b) = prW m.pg [] (b ++ a) := Bool.eq_iff_iff.2 ⟨key a b, key b a⟩
  unfold prgB
  rw [e]
/-- Turned at k. -/
theorem prgB_turn (l : List (Int × List UInt8)) (k : Nat) (m : MV) : prgB (l.drop k ++ l.take k) m = prgB l m := by
  rw [prgB_swap, List.take_append_drop]
/-- One page twice. -/
theorem prgB_twice (l : List (Int × List UInt8)) (k : Nat) (p : Int × List UInt8) (z : List UInt8) (m : MV) (h : l[k]? = some p) (hz : z.length = 256) : prgB (l ++ [(p.1, z)]) m = false := by
  refine Bool.eq_false_iff.2 fun q => ?_
  unfold prgB at q
  rw [Bool.and_eq_true, prW_iff, allP_append, List.nodup_append] at q
  obtain ⟨⟨h1, ⟨_, _, h2⟩, _⟩, _⟩ := q
  have hm : p ∈ l := List.mem_of_getElem? h
  have hf := of_decide_eq_true (h1 p (List.mem_append_left _ hm))
  refine h2 p.1 ?_ p.1 ?_ rfl
  · exact List.mem_flatMap.2 ⟨p, hm, (pgs_mem _ _ _).2 ⟨Int.le_refl _, by omega⟩⟩
  · rw [allP_cons]
    refine List.mem_append_left _ ((pgs_mem _ _ _).2 ⟨Int.le_refl _, ?_⟩)
    show p.1 < p.1 + ((z.length / 256 : Nat) : Int)
    rw [hz]
    omega
theorem wv_drop : ∀ (k : Nat) (hs : List (Int × Option Addr × Nat × Nat)), wv (hs.drop k) = (wv hs).drop (k * 2)
  | 0, _ => by simp
  | k + 1, [] => by simp [wv]
  | k + 1, p :: r => by rw [List.drop_succ_cons, wv_drop k r, wv_cons, Nat.add_mul, Nat.one_mul]; rfl
theorem wv_take : ∀ (k : Nat) (hs : List (Int × Option Addr × Nat × Nat)), wv (hs.take k) = (wv hs).take (k * 2)
  | 0, _ => by simp [wv]
  | k + 1, [] => by simp [wv]
  | k + 1, p :: r => by rw [List.take_succ_cons, wv_cons, wv_take k r, wv_cons, Nat.add_mul, Nat.one_mul]; rfl
theorem Hl.drop {hs : List (Int × Option Addr × Nat × Nat)} {l : List (Int × List UInt8)} (h : Hl hs l) (k : Nat) : Hl (hs.drop k) (l.drop k) :=
  ⟨by rw [List.length_drop, List.length_drop, h.len], fun j p hj => by
    rw [List.getElem?_drop] at hj
    obtain ⟨q, a, b⟩ := h.each _ p hj
    exact ⟨q, by rw [List.getElem?_drop]; exact a, b⟩⟩
theorem Hl.take {hs : List (Int × Option Addr × Nat × Nat)} {l : List (Int × List UInt8)} (h : Hl hs l) (k : Nat) : Hl (hs.take k) (l.take k) :=
  ⟨by rw [List.length_take, List.length_take, h.len], fun j p hj => by
    rw [List.getElem?_take] at hj
    split at hj
    · rename_i hk
      obtain ⟨q, a, b⟩ := h.each _ p hj
      exact ⟨q, by rw [List.getElem?_take, if_pos hk]; exact a, b⟩
    · cases hj⟩
theorem Hl.append {a b : List (Int × Option Addr × Nat × Nat)} {x y : List (Int × List UInt8)} (h : Hl a x) (k : Hl b y) : Hl (a ++ b) (x ++ y) := by
  refine ⟨by rw [List.length_append, List.length_append, h.len, k.len], fun j p hj => ?_⟩
  rcases Nat.lt_or_ge j a.length with q | q
  · rw [List.getElem?_append_left q] at hj
    rw [List.getElem?_append_left (by rw [← h.len]; exact q)]
    exact h.each j p hj
  · rw [List.getElem?_append_right q] at hj
    rw [List.getElem?_append_right (by rw [← h.len]; exact q), ← h.len]
    exact k.each _ p hj
theorem Hl.one {i : Int} {A : Option Addr} {n c : Nat} {xs : List UInt8} (hx : xs.length = n) (hn : n ≤ 140737488355328) (hi : -9223372036854775808 ≤ i ∧ i ≤ 9223372036854775807) : Hl [(i, A, n, c)] [(i, xs)] := by
  refine ⟨rfl, fun j p hj => ?_⟩
  cases j with
  | zero => injection hj with hj; subst hj; exact ⟨_, rfl, rfl, hx.symm, hn, hi⟩
  | succ j => cases hj
end Go.Proofs.Ythhalmjapiempaa
