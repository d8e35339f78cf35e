/- bytes.Compare, by the model's own entry. -/
import Derived.Test.YtenibcbodjkglaaA0
import Derived.Lib.BytesEntry
import Derived.Lib.Bytealg
import Derived.Laws.Externs
set_option linter.unusedVariables false
set_option linter.unusedSimpArgs false
namespace Go.Proofs.Ytenibcbodjkglaa
open Go.RowKit

theorem Bs.bytesOf {w : World} {A : Option Addr} {n c : Nat} {xs : List UInt8} (h : Bs w A n c xs) : (Extern.Bytes.bytesOf (.slice A n c)).run Try.prog w = .ok (strB xs) w := by
  have hn := h.len
  rcases A with _ | ad
  · have h0 : n = 0 := by
      rcases Nat.eq_zero_or_pos n with h0 | h0
      · exact h0
      · obtain ⟨ad, h', _⟩ := h.cells h0
        cases h'
    subst h0
    obtain rfl : xs = [] := List.eq_nil_of_length_eq_zero hn
    rfl
  · have := Lib.run_loadBytesX (P := Try.prog) w (xs.map fun x => (x.toNat : Int)) ad .empty (fun j x hj => by
      rw [List.getElem?_map] at hj
      cases hx : xs[j]? with
      | none => rw [hx] at hj; cases hj
      | some y =>
        rw [hx] at hj
        injection hj with hj
        obtain ⟨hl, he⟩ := List.getElem?_eq_some_iff.1 hx
        obtain ⟨ad', he', hc⟩ := h.cells (by omega)
        injection he' with he'
        subst he'
        rw [hc j (by omega)]
        simp [b8, List.getD_eq_getElem?_getD, hx, hj])
    rw [List.length_map, hn] at this
    have e : Lib.bytesOf (xs.map fun x => (x.toNat : Int)) = xs := by
      unfold Lib.bytesOf
      rw [List.map_map]
      exact (List.map_congr_left (fun x _ => by simp)).trans (List.map_id _)
    rw [e] at this
    refine Eq.trans this ?_
    congr 1
    unfold strB
    apply ByteArray.ext
    simp [ByteArray.empty, ByteArray.emptyWithCapacity]
    rfl
theorem dd2 (w : World) (a b : Nat) : (w.drewN a).drewN b = w.drewN (a + b) := by rw [World.drewN_drewN]
theorem dd3 (w : World) (a b c : Nat) : ((w.drewN a).drewN b).drewN c = w.drewN (a + b + c) := by rw [World.drewN_drewN, World.drewN_drewN, Nat.add_assoc]

/-! How two rows of bytes stand: the plain law -/
theorem cmp_opp (xs ys : List UInt8) : Lib.compareBytes ys xs = -Lib.compareBytes xs ys := by
  induction xs generalizing ys with
  | nil => cases ys <;> simp [Lib.compareBytes]
  | cons x xs ih =>
    cases ys with
    | nil => simp [Lib.compareBytes]
    | cons y ys =>
      simp only [Lib.compareBytes]
      by_cases h1 : x < y
      · have h2 : ¬ y < x := UInt8.lt_asymm h1
        simp [h1, h2]
      · by_cases h2 : y < x
        · simp [h1, h2]
        · simp [h1, h2, ih]
theorem cmp_three (xs ys : List UInt8) : Lib.compareBytes xs ys = -1 ∨ Lib.compareBytes xs ys = 0 ∨ Lib.compareBytes xs ys = 1 := by
  induction xs generalizing ys with
  | nil => cases ys <;> simp [Lib.compareBytes]
  | cons x xs ih =>
    cases ys with
    | nil => simp [Lib.compareBytes]
    | cons y ys =>
      simp only [Lib.compareBytes]
      split
      · exact .inl rfl
      · split
        · exact .inr (.inr rfl)
        · exact ih ys
theorem cmp_eq0 (xs ys : List UInt8) : Lib.compareBytes xs ys = 0 ↔ xs = ys := by
  induction xs generalizing ys with
  | nil => cases ys <;> simp [Lib.compareBytes]
  | cons x xs ih =>
    cases ys with
    | nil => simp [Lib.compareBytes]
    | cons y ys =>
      simp only [Lib.compareBytes]
      by_cases h1 : x < y
      · have : x ≠ y := fun e => UInt8.lt_irrefl y (e ▸ h1)
        simp [h1, this]
      · by_cases h2 : y < x
        · have : x ≠ y := fun e => UInt8.lt_irrefl y (e ▸ h2)
          simp [h1, h2, this]
        · have : x = y := UInt8.le_antisymm (UInt8.not_lt.1 h2) (UInt8.not_lt.1 h1)
          simp [h1, h2, this, ih]
theorem cmp_row (xs ys zs : List UInt8) (h1 : Lib.compareBytes xs ys ≤ 0) (h2 : Lib.compareBytes ys zs ≤ 0) : Lib.compareBytes xs zs ≤ 0 := by
  induction xs generalizing ys zs with
  | nil => cases zs <;> simp [Lib.compareBytes]
  | cons x xs ih =>
    cases ys with
    | nil => simp [Lib.compareBytes] at h1
    | cons y ys =>
      cases zs with
      | nil => simp [Lib.compareBytes] at h2
      | cons z zs =>
        simp only [Lib.compareBytes] at h1 h2 ⊢
        by_cases a1 : x < y
        · by_cases b1 : y < z
          · simp [UInt8.lt_trans a1 b1]
          · by_cases b2 : z < y
            · simp [b1, b2] at h2
            · have : y = z := UInt8.le_antisymm (UInt8.not_lt.1 b2) (UInt8.not_lt.1 b1)
              subst this
              simp [a1]
        · by_cases a2 : y < x
          · simp [a1, a2] at h1
          · have : x = y := UInt8.le_antisymm (UInt8.not_lt.1 a2) (UInt8.not_lt.1 a1)
            subst this
            by_cases b1 : x < z
            · simp [b1]
            · by_cases b2 : z < x
              · simp [b1, b2] at h2
              · simp only [a1, b1, b2, if_false] at h1 h2 ⊢
                exact ih ys zs h1 h2
theorem cmp_step (xs ys : List UInt8) (j : Nat) (h1 : j < xs.length) (h2 : j < ys.length) :
    Lib.compareBytes (xs.drop j) (ys.drop j) = if xs.getD j 0 < ys.getD j 0 then -1 else if ys.getD j 0 < xs.getD j 0 then 1 else Lib.compareBytes (xs.drop (j + 1)) (ys.drop (j + 1)) := by
  rw [List.drop_eq_getElem_cons h1, List.drop_eq_getElem_cons h2, Lib.compareBytes]
  simp [List.getD_eq_getElem?_getD, List.getElem?_eq_getElem h1, List.getElem?_eq_getElem h2]


end Go.Proofs.Ytenibcbodjkglaa
