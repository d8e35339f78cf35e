/- The walk of the law DiskPicks. -/
import Derived.Test.YtcegphnhohpegaaD17
set_option linter.unusedVariables false
set_option linter.unusedSimpArgs false
namespace Go.Proofs.Ytcegphnhohpegaa
open Go.RowKit

theorem take_splice8 {n k a : Nat} (X Y Z : List Value) (h1 : a + k ≤ n) (h2 : X.length = a) (h3 : Y.length = k) : (X ++ (Y ++ Z)).take n = X ++ (Y ++ Z.take (n - (a + k))) := by
  rw [List.take_append, List.take_of_length_le (by omega), List.take_append, List.take_of_length_le (l := Y) (by omega), h2, h3, Nat.sub_sub]
theorem Ow.splice8 {w : World} {base g n c a : Nat} {xs ys : List UInt8} (h : Ow w base (some ⟨g, 0, none⟩) n c xs) (ha : a + ys.length ≤ n) :
    ∃ cur : Array Value, w.heap[g]? = some (.cells cur 5 (0, 0)) ∧ a + ys.length ≤ cur.size ∧
      Ow (w.setRow g (cur.toList.take a ++ (u8v ys ++ cur.toList.drop (a + (u8v ys).length))).toArray) base (some ⟨g, 0, none⟩) n c (putL xs ys a) := by
  obtain ⟨⟨h1, h2⟩, hl⟩ := h
  rcases h2 with ⟨e, _⟩ | ⟨g', cap, cur, e, hg, hh, hc, hm, hs, ht⟩
  · cases e
  · injection e with e1 e2 e3
    injection e1 with e1
    injection e1 with e1
    subst e1
    subst e3
    rw [Nat.mul_one] at hs ht h1
    have hyl := u8v_length ys
    refine ⟨cur, hh, by omega, ⟨?_, .inr ⟨g, c, _, rfl, hg, setRow_heap _ _ _ _ _ _ hh, hc, hm, ?_, ?_⟩⟩, hl⟩
    · have hxl : xs.length = n := by rw [← u8v_length xs]; exact h1
      rw [u8v_length, putL_length _ _ _ (by omega), Nat.mul_one]
      exact hxl
    · simp [List.length_append, hyl]; omega
    · rw [Nat.mul_one, List.toList_toArray, take_splice8 (a := a) (k := ys.length) _ _ _ (by omega) (by simp; omega) hyl]
      unfold putL
      rw [u8v_append, u8v_append, hyl]
      have e1 : u8v (xs.take a) = cur.toList.take a := by
        have : u8v (xs.take a) = (u8v xs).take a := by simp [u8v, List.map_take]
        rw [this, ← ht, List.take_take, Nat.min_eq_left (by omega)]
      have e2 : u8v (xs.drop (a + ys.length)) = (cur.toList.drop (a + ys.length)).take (n - (a + ys.length)) := by
        have : u8v (xs.drop (a + ys.length)) = (u8v xs).drop (a + ys.length) := by simp [u8v, List.map_drop]
        rw [this, ← ht, List.drop_take]
      rw [e1, e2]
/-- A disk beside a slice that the law writes, and rows T. -/
structure WS1 (w : World) (g : Nat) (dv : DV) (A : Option Addr) (n c : Nat) (xs : List UInt8) (T : List (Nat × Obj)) (W : World) : Prop where
  len : xs.length = n
  cap : n ≤ c ∧ c ≤ 9223372036854775807 ∧ n ≤ 140737488355328
  dh : n = 0 → DH w g T dv W
  ow : 0 < n → ∃ i o, A = some ⟨i, 0, none⟩ ∧ w.heap.size ≤ i ∧ Ow W w.heap.size A n c xs ∧ DH w g ((i, o) :: T) dv W ∧ ∀ p ∈ T, p.1 ≠ i
theorem WS1.bs {w : World} {g n c : Nat} {dv : DV} {A : Option Addr} {xs : List UInt8} {T : List (Nat × Obj)} {W : World} (h : WS1 w g dv A n c xs T W) : Bs W A n c xs := by
  rcases Nat.eq_zero_or_pos n with h0 | h0
  · exact ⟨h.len, h.cap.1, h.cap.2.1, h.cap.2.2, fun q => absurd q (by omega)⟩
  · obtain ⟨i, o, _, _, hO, _⟩ := h.ow h0
    exact hO.bs
theorem WS1.any {w : World} {g n c : Nat} {dv : DV} {A : Option Addr} {xs : List UInt8} {T : List (Nat × Obj)} {W : World} (h : WS1 w g dv A n c xs T W) : DH w g T dv W := by
  rcases Nat.eq_zero_or_pos n with h0 | h0
  · exact h.dh h0
  · obtain ⟨i, o, _, _, _, hH, _⟩ := h.ow h0
    exact hH.drop (fun p hp => List.mem_cons_of_mem _ hp)
theorem WS1.op {w : World} {g n c : Nat} {dv dv' : DV} {A : Option Addr} {xs : List UInt8} {T : List (Nat × Obj)} {W : World} (h : WS1 w g dv A n c xs T W) {f : FuncId} {args : Array Value} {P : Ending → Prop}
    (hf : ∀ R, (∀ p ∈ T, p ∈ R) → DH w g R dv W → Calls Try.prog f args W fun e w' => P e ∧ DH w g R dv' w') : Calls Try.prog f args W fun e w' => P e ∧ WS1 w g dv' A n c xs T w' := by
  rcases Nat.eq_zero_or_pos n with h0 | h0
  · exact (hf T (fun p hp => hp) (h.dh h0)).mono fun e w' ⟨he, hd⟩ => ⟨he, h.len, h.cap, fun _ => hd, fun q => absurd q (by omega)⟩
  · obtain ⟨i, o, e1, hi, hO, hH, hne⟩ := h.ow h0
    exact (hf _ (fun p hp => List.mem_cons_of_mem _ hp) hH).mono fun e w' ⟨he, hd⟩ => ⟨he, h.len, h.cap, fun q => absurd q (by omega), fun _ => ⟨i, o, e1, hi, hO.kept (fun k q hk => by
      rw [e1] at q
      injection q with q
      injection q with q
      rw [← q]
      exact (hd.row List.mem_cons_self).trans (hH.row List.mem_cons_self).symm), hd, hne⟩⟩
theorem WS1.step {w : World} {g n c : Nat} {dv : DV} {A : Option Addr} {xs : List UInt8} {T : List (Nat × Obj)} {W W1 : World} (h : WS1 w g dv A n c xs T W) (hB : Below W.heap.size W W1) : WS1 w g dv A n c xs T W1 :=
  ⟨h.len, h.cap, fun q => (h.dh q).step hB, fun q => by
    obtain ⟨i, o, e1, hi, hO, hH, hne⟩ := h.ow q
    exact ⟨i, o, e1, hi, hO.below hB, hH.step hB, hne⟩⟩
theorem WS1.lit {w : World} {g n c : Nat} {dv : DV} {A : Option Addr} {xs : List UInt8} {T : List (Nat × Obj)} {W : World} (h : WS1 w g dv A n c xs T W) (b : Obj) : WS1 w g dv A n c xs ((W.heap.size, b) :: T) (W.alloc b) :=
  ⟨h.len, h.cap, fun q => (h.dh q).lit b, fun q => by
    obtain ⟨i, o, e1, hi, hO, hH, hne⟩ := h.ow q
    have hil : i < W.heap.size := hH.lt _ List.mem_cons_self
    refine ⟨i, o, e1, hi, hO.alloc b, (hH.lit b).drop (fun p hp => ?_), fun p hp => ?_⟩
    · rcases List.mem_cons.1 hp with rfl | hp
      · exact List.mem_cons_of_mem _ List.mem_cons_self
      · rcases List.mem_cons.1 hp with rfl | hp
        · exact List.mem_cons_self
        · exact List.mem_cons_of_mem _ (List.mem_cons_of_mem _ hp)
    · rcases List.mem_cons.1 hp with rfl | hp
      · exact fun q => by simp only at q; omega
      · exact hne p hp⟩
theorem WS1.drop {w : World} {g n c : Nat} {dv : DV} {A : Option Addr} {xs : List UInt8} {T T1 : List (Nat × Obj)} {W : World} (h : WS1 w g dv A n c xs T W) (hs : ∀ p ∈ T1, p ∈ T) : WS1 w g dv A n c xs T1 W :=
  ⟨h.len, h.cap, fun q => (h.dh q).drop hs, fun q => by
    obtain ⟨i, o, e1, hi, hO, hH, hne⟩ := h.ow q
    refine ⟨i, o, e1, hi, hO, hH.drop (fun p hp => ?_), fun p hp => hne p (hs p hp)⟩
    rcases List.mem_cons.1 hp with rfl | hp
    · exact List.mem_cons_self
    · exact List.mem_cons_of_mem _ (hs p hp)⟩
theorem WS1.copy {w : World} {g n c a : Nat} {dv : DV} {A : Option Addr} {xs ys : List UInt8} {T : List (Nat × Obj)} {W : World} (h : WS1 w g dv A n c xs T W) (h0 : 0 < n) (ha : a + ys.length ≤ n) :
    ∃ i cur, A = some ⟨i, 0, none⟩ ∧ W.heap[i]? = some (.cells cur 5 (0, 0)) ∧ a + ys.length ≤ cur.size ∧ WS1 w g dv A n c (putL xs ys a) T (W.setRow i (cur.toList.take a ++ (u8v ys ++ cur.toList.drop (a + (u8v ys).length))).toArray) := by
  obtain ⟨i, o, rfl, hi, hO, hH, hne⟩ := h.ow h0
  obtain ⟨cur, h1, h2, h3⟩ := hO.splice8 ha
  refine ⟨i, cur, rfl, h1, h2, by rw [putL_length _ _ _ (by rw [h.len]; exact ha)]; exact h.len, h.cap, fun q => absurd q (by omega), fun _ => ⟨i, _, rfl, hi, h3, hH.turn (o1 := .cells _ 5 (0, 0)) ⟨rfl, rfl, rfl, by simp, fun k _ hk => setRow_other _ _ _ _ hk⟩ hi hne (setRow_heap _ _ _ _ _ _ h1), hne⟩⟩
end Go.Proofs.Ytcegphnhohpegaa
