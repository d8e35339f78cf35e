/- The plain law of a page's node: what the document reads of a body, and that it is what the program's Decode gives. -/
import Derived.Test.YtbjfklgmbeaaoaaGreatV4
set_option linter.unusedVariables false
set_option linter.unusedSimpArgs false
namespace Go.Proofs.YtbjfklgmbeaaoaaGreat
open Go.RowKit

def bN (X : List UInt8) (a : Nat) : Nat := (X.getD a 0).toNat
theorem b8_bN (X : List UInt8) (a : Nat) : b8 X a = (bN X a : Int) := rfl
theorem bN_le (X : List UInt8) (a : Nat) : bN X a ≤ 255 := by
  unfold bN
  have := (X.getD a 0).toNat_lt
  omega
/-- A kid at a place, and where it ends. -/
def oneK (X : List UInt8) (g : Int) (a : Nat) : Option (KV × Nat) :=
  if a < X.length ∧ a + 1 + bN X a + (iwI g).toNat ≤ X.length then some (⟨(X.drop (a + 1)).take (bN X a), nm7 ((X.drop (a + 1 + bN X a)).take (iwI g).toNat)⟩, a + 1 + bN X a + (iwI g).toNat) else none
def szN (X : List UInt8) (a : Nat) : Nat := leN ((X.drop (a + 2)).take 2)
/-- An item at a place, and where it ends. -/
def oneI (X : List UInt8) (g : Int) (a : Nat) : Option (IV × Nat) :=
  if a < X.length ∧ a + 4 + bN X a ≤ X.length then
    if bN X (a + 1) = 0 then
      (if a + 4 + bN X a + szN X a ≤ X.length then some (⟨(X.drop (a + 4)).take (bN X a), (X.drop (a + 4 + bN X a)).take (szN X a), 0, 0⟩, a + 4 + bN X a + szN X a) else none)
    else if bN X (a + 1) ≤ 1 ∧ a + 4 + bN X a + (iwI g).toNat ≤ X.length ∧ nm7 ((X.drop (a + 4 + bN X a)).take (iwI g).toNat) ≠ 0 then
      some (⟨(X.drop (a + 4)).take (bN X a), [], (szN X a : Int), nm7 ((X.drop (a + 4 + bN X a)).take (iwI g).toNat)⟩, a + 4 + bN X a + (iwI g).toNat)
    else none
  else none
theorem sz_le (X : List UInt8) (a : Nat) : szN X a ≤ 65535 := by
  unfold szN
  have h1 := leN_lt ((X.drop (a + 2)).take 2)
  have h2 : ((X.drop (a + 2)).take 2).length ≤ 2 := by rw [List.length_take]; omega
  have h3 := Nat.pow_le_pow_right (show 0 < 256 by omega) h2
  have h5 : (256 : Nat) ^ 2 = 65536 := by decide
  omega
/-- So many items, one behind the other. -/
def pI (X : List UInt8) (g : Int) : Nat → Option (List IV × Nat)
  | 0 => some ([], 0)
  | k + 1 => match pI X g k with
    | none => none
    | some t => match oneI X g t.2 with
      | none => none
      | some r => some (t.1 ++ [r.1], r.2)
def pK (X : List UInt8) (g : Int) : Nat → Option (List KV × Nat)
  | 0 => some ([], 0)
  | k + 1 => match pK X g k with
    | none => none
    | some t => match oneK X g t.2 with
      | none => none
      | some r => some (t.1 ++ [r.1], r.2)
def zerosB (X : List UInt8) (a : Nat) : Bool := (X.drop a).all fun x => x == 0
/-- The node of a page, as the document has it. -/
def formP (xs : List UInt8) : Option NV :=
  if hK xs = 76 then match pI (bodyL xs) (hG xs) (hC xs).toNat with
    | none => none
    | some t => if zerosB (bodyL xs) t.2 = true ∧ t.1.any lacksB = false ∧ hNx xs = 0 ∧ rightN (hG xs) ⟨true, t.1, []⟩ = true then some ⟨true, t.1, []⟩ else none
  else match pK (bodyL xs) (hG xs) (hC xs).toNat with
    | none => none
    | some t => if zerosB (bodyL xs) t.2 = true ∧ hNx xs = 0 ∧ rightN (hG xs) ⟨false, [], t.1⟩ = true then some ⟨false, [], t.1⟩ else none
theorem le8_cons (n : Int) (k : Nat) : le8 n (k + 1) = UInt8.ofNat (n % 256).toNat :: le8 (n / 256) k := by
  induction k with
  | zero => simp [le8]
  | succ k ih =>
    have e : n / 256 / 256 ^ k = n / 256 ^ (k + 1) := by
      rw [Int.pow_succ, Int.mul_comm, Int.ediv_ediv_of_nonneg (by decide)]
    rw [le8, ih, List.cons_append]
    show _ :: (le8 (n / 256) k ++ [UInt8.ofNat (n / 256 ^ (k + 1) % 256).toNat]) = _ :: (le8 (n / 256) k ++ [UInt8.ofNat (n / 256 / 256 ^ k % 256).toNat])
    rw [e]
theorem le8_leN (ys : List UInt8) : le8 (leN ys : Int) ys.length = ys := by
  induction ys with
  | nil => rfl
  | cons x t ih =>
    rw [List.length_cons, le8_cons]
    have h1 : ((leN (x :: t) : Nat) : Int) % 256 = (x.toNat : Int) := by have := x.toNat_lt; simp only [leN]; omega
    have h2 : ((leN (x :: t) : Nat) : Int) / 256 = (leN t : Int) := by have := x.toNat_lt; simp only [leN]; omega
    rw [h1, h2, ih, Int.toNat_natCast, UInt8.ofNat_toNat]
theorem le8_b (X : List UInt8) (a : Nat) (h : a < X.length) : le8 (bN X a : Int) 1 = [X[a]] := by
  have := le8_leN [X[a]]
  rw [leN_one] at this
  unfold bN
  rw [List.getD_eq_getElem?_getD, List.getElem?_eq_getElem h]
  exact this
theorem cut_at (X : List UInt8) (a m : Nat) : X.drop a = (X.drop a).take m ++ X.drop (a + m) := by rw [← List.drop_drop, List.take_append_drop]
theorem take_le8 {X : List UInt8} {a m : Nat} (h : a + m ≤ X.length) : le8 (leN ((X.drop a).take m) : Int) m = (X.drop a).take m := by
  have := le8_leN ((X.drop a).take m)
  rwa [show ((X.drop a).take m).length = m by rw [List.length_take, List.length_drop]; omega] at this
theorem nm_pos {xs : List UInt8} (h : 0 ≤ nm7 xs) : nm7 xs = (leN xs : Int) := by
  unfold nm7 at *
  split
  · rfl
  · rename_i q; rw [if_neg q] at h; omega
/-- What was read of an item is what stands there. -/
theorem oneI_form {X : List UInt8} {g : Int} {a : Nat} {r : IV × Nat} (h : oneI X g a = some r) (hq : ItOk g r.1) : X.drop a = itemY g r.1 ++ X.drop r.2 ∧ r.2 ≤ X.length := by
  unfold oneI at h
  split at h
  · rename_i h1
    have hb0 : le8 (bN X a : Int) 1 = (X.drop a).take 1 := by
      rw [le8_b X a h1.1, List.drop_eq_getElem_cons h1.1]; rfl
    have hb1 : le8 (bN X (a + 1) : Int) 1 = (X.drop (a + 1)).take 1 := by
      rw [le8_b X (a + 1) (by omega), List.drop_eq_getElem_cons (show a + 1 < X.length by omega)]; rfl
    have hsz : le8 (szN X a : Int) 2 = (X.drop (a + 2)).take 2 := take_le8 (by omega)
    have hkl : ((X.drop (a + 4)).take (bN X a)).length = bN X a := by rw [List.length_take, List.length_drop]; omega
    split at h
    · rename_i h2
      split at h
      · rename_i h3
        injection h with h
        subst h
        have hvl : ((X.drop (a + 4 + bN X a)).take (szN X a)).length = szN X a := by rw [List.length_take, List.length_drop]; omega
        refine ⟨?_, h3⟩
        unfold itemY longI
        simp only [if_true, hkl, hvl, List.append_nil]
        rw [hb0, hsz, show le8 0 1 = (X.drop (a + 1)).take 1 by rw [← hb1, h2]; rfl]
        simp only [List.append_assoc]
        rw [← cut_at X (a + 4 + bN X a) (szN X a), ← cut_at X (a + 4) (bN X a), ← cut_at X (a + 2) 2, ← cut_at X (a + 1) 1, ← cut_at X a 1]
      · cases h
    · rename_i h2
      split at h
      · rename_i h3
        injection h with h
        subst h
        have hr := hq.z
        simp only at hr
        have hr2 : 2 ≤ nm7 ((X.drop (a + 4 + bN X a)).take (iwI g).toNat) := by
          rcases hr with z | z
          · exact absurd z.1 h3.2.2
          · exact z.2.1
        refine ⟨?_, h3.2.1⟩
        unfold itemY longI
        simp only [if_neg h3.2.2, hkl, List.nil_append]
        have hF : bN X (a + 1) = 1 := by omega
        rw [hb0, hsz, show le8 1 1 = (X.drop (a + 1)).take 1 by rw [← hb1, hF]; rfl, nm_pos (by omega), take_le8 h3.2.1]
        simp only [List.append_assoc]
        rw [← cut_at X (a + 4 + bN X a) (iwI g).toNat, ← cut_at X (a + 4) (bN X a), ← cut_at X (a + 2) 2, ← cut_at X (a + 1) 1, ← cut_at X a 1]
      · cases h
  · cases h
theorem oneK_form {X : List UInt8} {g : Int} {a : Nat} {r : KV × Nat} (h : oneK X g a = some r) (hq : KdOk g r.1) : X.drop a = kidY g r.1 ++ X.drop r.2 ∧ r.2 ≤ X.length := by
  unfold oneK at h
  split at h
  · rename_i h1
    injection h with h
    subst h
    have hb0 : le8 (bN X a : Int) 1 = (X.drop a).take 1 := by
      rw [le8_b X a h1.1, List.drop_eq_getElem_cons h1.1]; rfl
    have hkl : ((X.drop (a + 1)).take (bN X a)).length = bN X a := by rw [List.length_take, List.length_drop]; omega
    have hr := hq.r
    simp only at hr
    refine ⟨?_, h1.2⟩
    unfold kidY
    simp only [hkl]
    rw [hb0, nm_pos (by omega), take_le8 h1.2, List.append_assoc, List.append_assoc, ← cut_at X (a + 1 + bN X a) (iwI g).toNat, ← cut_at X (a + 1) (bN X a), ← cut_at X a 1]
  · cases h
theorem pI_form {X : List UInt8} {g : Int} : ∀ (k : Nat) (t : List IV × Nat), pI X g k = some t → (∀ q ∈ t.1, ItOk g q) → X = t.1.flatMap (itemY g) ++ X.drop t.2 ∧ t.2 ≤ X.length ∧ t.1.length = k
  | 0, t, h, _ => by
    injection h with h
    subst h
    exact ⟨by simp, Nat.zero_le _, rfl⟩
  | k + 1, t, h, hq => by
    unfold pI at h
    split at h
    · cases h
    · rename_i t0 h0
      split at h
      · cases h
      · rename_i r hr
        injection h with h
        subst h
        obtain ⟨e1, e2, e3⟩ := pI_form k t0 h0 (fun q hq' => hq q (List.mem_append_left _ hq'))
        obtain ⟨f1, f2⟩ := oneI_form hr (hq _ (List.mem_append_right _ List.mem_cons_self))
        refine ⟨?_, f2, by rw [List.length_append, e3]; rfl⟩
        rw [List.flatMap_append, List.flatMap_cons, List.flatMap_nil, List.append_nil, List.append_assoc, ← f1, ← e1]
theorem pK_form {X : List UInt8} {g : Int} : ∀ (k : Nat) (t : List KV × Nat), pK X g k = some t → (∀ q ∈ t.1, KdOk g q) → X = t.1.flatMap (kidY g) ++ X.drop t.2 ∧ t.2 ≤ X.length ∧ t.1.length = k
  | 0, t, h, _ => by
    injection h with h
    subst h
    exact ⟨by simp, Nat.zero_le _, rfl⟩
  | k + 1, t, h, hq => by
    unfold pK at h
    split at h
    · cases h
    · rename_i t0 h0
      split at h
      · cases h
      · rename_i r hr
        injection h with h
        subst h
        obtain ⟨e1, e2, e3⟩ := pK_form k t0 h0 (fun q hq' => hq q (List.mem_append_left _ hq'))
        obtain ⟨f1, f2⟩ := oneK_form hr (hq _ (List.mem_append_right _ List.mem_cons_self))
        refine ⟨?_, f2, by rw [List.length_append, e3]; rfl⟩
        rw [List.flatMap_append, List.flatMap_cons, List.flatMap_nil, List.append_nil, List.append_assoc, ← f1, ← e1]
/-- What stands there is read. -/
theorem oneI_back {X Q : List UInt8} {g : Int} {a : Nat} {q : IV} (hq : ItOk g q) (h : X.drop a = itemY g q ++ Q) (ha : a ≤ X.length) : oneI X g a = some (q, a + (itemY g q).length) := by
  have hlen : (itemY g q).length = 4 + q.k.length + q.v.length + (if q.r = 0 then 0 else (iwI g).toNat) := itemY_len
  have hX : X.length = a + (itemY g q).length + Q.length := by
    have := congrArg List.length h
    rw [List.length_drop, List.length_append] at this
    omega
  unfold itemY at h
  simp only [List.append_assoc] at h
  obtain ⟨v1, s1, d1, l1⟩ := rd_le8 rfl ha (fit_one (n := (q.k.length : Int)) (by have := hq.k; omega)) (by have := hq.k; omega) h
  obtain ⟨v2, s2, d2, l2⟩ := rd_le8 rfl l1 (fit_one (n := if q.r = 0 then 0 else 1) (by split <;> omega)) (by split <;> omega) d1
  obtain ⟨v3, s3, d3, l3⟩ := rd_le8 rfl l2 (fit_two (n := longI q.v.length q.s q.r) (by have := hq.l; omega)) (by have := hq.l; omega) d2
  have e1 : (1 : Int).toNat = 1 := rfl
  have e2 : (2 : Int).toNat = 2 := rfl
  rw [e1] at d1 d2 d3 l1 l2 l3
  rw [e2] at d3 l3
  have hb0 : bN X a = q.k.length := by
    have h1 : leN ((X.drop a).take 1) = q.k.length := by
      rw [h, List.take_left' (le8_length _ _)]
      have := leN_back (fit_one (n := (q.k.length : Int)) (by have := hq.k; omega))
      rw [e1] at this
      omega
    rw [get8 X a (by omega), leN_one] at h1
    exact h1
  have hb1 : (bN X (a + 1) : Int) = if q.r = 0 then 0 else 1 := by
    have h1 : (leN ((X.drop (a + 1)).take 1) : Int) = if q.r = 0 then 0 else 1 := by
      rw [d1, List.take_left' (le8_length _ _)]
      have := leN_back (fit_one (n := if q.r = 0 then 0 else 1) (by split <;> omega))
      rwa [e1] at this
    rw [get8 X (a + 1) (by omega), leN_one] at h1
    exact h1
  have hsz : (szN X a : Int) = longI q.v.length q.s q.r := by
    unfold szN
    rw [show a + 2 = a + 1 + 1 by omega, d2, List.take_left' (le8_length _ _)]
    have := leN_back (fit_two (n := longI q.v.length q.s q.r) (by have := hq.l; omega))
    rwa [e2] at this
  have d3' : X.drop (a + 4) = q.k ++ (q.v ++ ((if q.r = 0 then [] else le8 q.r (iwI g).toNat) ++ Q)) := by
    rw [show a + 4 = a + 1 + 1 + 2 by omega]
    exact d3
  have hk : (X.drop (a + 4)).take q.k.length = q.k := by rw [d3']; exact List.take_left' rfl
  have d4 : X.drop (a + 4 + q.k.length) = q.v ++ ((if q.r = 0 then [] else le8 q.r (iwI g).toNat) ++ Q) := by
    rw [← List.drop_drop, d3']; exact List.drop_left' rfl
  unfold oneI
  rw [hb0, if_pos ⟨by omega, by omega⟩]
  by_cases hr : q.r = 0
  · rw [if_pos hr] at hb1 hlen d4
    have hs : q.s = 0 := by rcases hq.z with z | z; exact z.2.1; exact absurd hr z.1
    have hlg : longI q.v.length q.s q.r = (q.v.length : Int) := if_pos hr
    have hz : szN X a = q.v.length := by omega
    rw [if_pos (by omega), hz, if_pos (by omega), hk, d4, List.take_left' rfl]
    obtain ⟨qk, qv, qs, qr⟩ := q
    simp only at hr hs hlen ⊢
    subst hr hs
    rw [hlen]
    simp only [Nat.add_zero, Option.some.injEq, Prod.mk.injEq, true_and]
    omega
  · rw [if_neg hr] at hb1 hlen d4
    have hv : q.v = [] := by rcases hq.z with z | z; exact absurd z.1 hr; exact z.2.2.2
    have hr2 : 2 ≤ q.r ∧ q.r < 16384 := by rcases hq.z with z | z; exact absurd z.1 hr; exact ⟨z.2.1, z.2.2.1⟩
    have hlg : longI q.v.length q.s q.r = q.s := if_neg hr
    rw [hv, List.nil_append] at d4
    have hvl : q.v.length = 0 := by rw [hv]; rfl
    have hnm : nm7 ((X.drop (a + 4 + q.k.length)).take (iwI g).toNat) = q.r := by
      rw [d4, List.take_left' (le8_length _ _)]
      have := leN_back (fit_id hq.hg (n := q.r) (by omega))
      unfold nm7
      rw [if_pos (by omega)]
      exact this
    rw [if_neg (by omega), hnm, if_pos ⟨by omega, by omega, hr⟩, hk, hsz, hlg]
    obtain ⟨qk, qv, qs, qr⟩ := q
    simp only at hv hlen hvl ⊢
    subst hv
    rw [hlen]
    simp only [Option.some.injEq, Prod.mk.injEq, true_and]
    simp only [List.length_nil]
    omega
theorem oneK_back {X Q : List UInt8} {g : Int} {a : Nat} {q : KV} (hq : KdOk g q) (h : X.drop a = kidY g q ++ Q) (ha : a ≤ X.length) : oneK X g a = some (q, a + (kidY g q).length) := by
  have hlen : (kidY g q).length = 1 + q.k.length + (iwI g).toNat := kidY_len
  have hX : X.length = a + (kidY g q).length + Q.length := by
    have := congrArg List.length h
    rw [List.length_drop, List.length_append] at this
    omega
  unfold kidY at h
  simp only [List.append_assoc] at h
  obtain ⟨v1, s1, d1, l1⟩ := rd_le8 rfl ha (fit_one (n := (q.k.length : Int)) (by have := hq.k; omega)) (by have := hq.k; omega) h
  have e1 : (1 : Int).toNat = 1 := rfl
  rw [e1] at d1 l1
  have hb0 : bN X a = q.k.length := by
    have h1 : leN ((X.drop a).take 1) = q.k.length := by
      rw [h, List.take_left' (le8_length _ _)]
      have := leN_back (fit_one (n := (q.k.length : Int)) (by have := hq.k; omega))
      rw [e1] at this
      omega
    rw [get8 X a (by omega), leN_one] at h1
    exact h1
  have hk : (X.drop (a + 1)).take q.k.length = q.k := by rw [d1]; exact List.take_left' rfl
  have d4 : X.drop (a + 1 + q.k.length) = le8 q.r (iwI g).toNat ++ Q := by
    rw [← List.drop_drop, d1]; exact List.drop_left' rfl
  have hr := hq.r
  have hnm : nm7 ((X.drop (a + 1 + q.k.length)).take (iwI g).toNat) = q.r := by
    rw [d4, List.take_left' (le8_length _ _)]
    have := leN_back (fit_id hq.hg (n := q.r) (by omega))
    unfold nm7
    rw [if_pos (by omega)]
    exact this
  unfold oneK
  rw [hb0, if_pos ⟨by omega, by omega⟩, hk, hnm, hlen]
  simp only [Option.some.injEq, Prod.mk.injEq, true_and]
  omega
theorem pI_back {X Z : List UInt8} {g : Int} {l : List IV} (hq : ∀ q ∈ l, ItOk g q) (h : X = l.flatMap (itemY g) ++ Z) : ∀ k, k ≤ l.length → pI X g k = some (l.take k, ((l.take k).flatMap (itemY g)).length) ∧ X.drop ((l.take k).flatMap (itemY g)).length = (l.drop k).flatMap (itemY g) ++ Z ∧ ((l.take k).flatMap (itemY g)).length ≤ X.length
  | 0, _ => ⟨rfl, by simpa using h, Nat.zero_le _⟩
  | k + 1, hk => by
    obtain ⟨h1, h2, h3⟩ := pI_back hq h k (by omega)
    have hp : l[k]? = some l[k] := List.getElem?_eq_getElem (by omega)
    have hd : l.drop k = l[k] :: l.drop (k + 1) := List.drop_eq_getElem_cons (by omega)
    have ht : l.take (k + 1) = l.take k ++ [l[k]] := by rw [List.take_add_one, hp]; rfl
    rw [hd, List.flatMap_cons, List.append_assoc] at h2
    have e1 := oneI_back (hq _ (List.getElem_mem (by omega))) h2 h3
    obtain ⟨_, e2, e3⟩ := rd_item (hq _ (List.getElem_mem (by omega))) rfl h3 h2
    rw [ht, List.flatMap_append, List.length_append]
    simp only [List.flatMap_cons, List.flatMap_nil, List.append_nil]
    refine ⟨?_, e2, e3⟩
    unfold pI
    rw [h1]
    simp only [e1]
theorem pK_back {X Z : List UInt8} {g : Int} {l : List KV} (hq : ∀ q ∈ l, KdOk g q) (h : X = l.flatMap (kidY g) ++ Z) : ∀ k, k ≤ l.length → pK X g k = some (l.take k, ((l.take k).flatMap (kidY g)).length) ∧ X.drop ((l.take k).flatMap (kidY g)).length = (l.drop k).flatMap (kidY g) ++ Z ∧ ((l.take k).flatMap (kidY g)).length ≤ X.length
  | 0, _ => ⟨rfl, by simpa using h, Nat.zero_le _⟩
  | k + 1, hk => by
    obtain ⟨h1, h2, h3⟩ := pK_back hq h k (by omega)
    have hp : l[k]? = some l[k] := List.getElem?_eq_getElem (by omega)
    have hd : l.drop k = l[k] :: l.drop (k + 1) := List.drop_eq_getElem_cons (by omega)
    have ht : l.take (k + 1) = l.take k ++ [l[k]] := by rw [List.take_add_one, hp]; rfl
    rw [hd, List.flatMap_cons, List.append_assoc] at h2
    have e1 := oneK_back (hq _ (List.getElem_mem (by omega))) h2 h3
    obtain ⟨_, e2, e3⟩ := rd_kid (hq _ (List.getElem_mem (by omega))) rfl h3 h2
    rw [ht, List.flatMap_append, List.length_append]
    simp only [List.flatMap_cons, List.flatMap_nil, List.append_nil]
    refine ⟨?_, e2, e3⟩
    unfold pK
    rw [h1]
    simp only [e1]
end Go.Proofs.YtbjfklgmbeaaoaaGreat
