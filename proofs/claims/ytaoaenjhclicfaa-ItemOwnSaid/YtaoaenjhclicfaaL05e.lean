/- The walk of the law ItemOwn. -/
import Derived.Test.YtaoaenjhclicfaaL05a
set_option linter.unusedVariables false
set_option linter.unusedSimpArgs false
namespace Go.Proofs.Ytaoaenjhclicfaa
open Go.RowKit

/-! Worlds of which one block alone has turned -/
structure OnlyB (g : Nat) (w W : World) : Prop where
  os : W.os = w.os
  tape : W.tape = w.tape
  output : W.output = w.output
  size : w.heap.size ≤ W.heap.size
  block : ∀ i, i < w.heap.size → i ≠ g → W.heap[i]? = w.heap[i]?
theorem OnlyB.refl (g : Nat) (w : World) : OnlyB g w w := ⟨rfl, rfl, rfl, Nat.le_refl _, fun _ _ _ => rfl⟩
theorem OnlyB.set {g : Nat} {w W : World} (h : OnlyB g w W) (j : Nat) (v : Value) : OnlyB g w (W.setCell ⟨g, j, none⟩ v) := by
  have hb := (Below.refl g W).setCell (p := ⟨g, j, none⟩) (Nat.le_refl _) v
  exact ⟨hb.os.trans h.os, hb.tape.trans h.tape, hb.output.trans h.output, Nat.le_trans h.size hb.size, fun i hi hne => (Below.heap_setCell _ _ _ _ hne).trans (h.block i hi hne)⟩
theorem OnlyB.drew {g : Nat} {w W : World} (h : OnlyB g w W) : OnlyB g w W.drew := ⟨h.os, h.tape, h.output, h.size, h.block⟩
theorem OnlyB.below {g base : Nat} {w0 w W : World} (h : OnlyB g w W) (hB : Below base w0 w) (hg : base ≤ g) (hs : base ≤ w0.heap.size) : Below base w0 W :=
  ⟨h.os.trans hB.os, h.tape.trans hB.tape, h.output.trans hB.output, Nat.le_trans hB.size h.size, fun i hi => (h.block i (by have := hB.size; omega) (by omega)).trans (hB.block i hi)⟩
theorem OnlyB.cell {g : Nat} {w W : World} (h : OnlyB g w W) {a : Addr} {v : Value} (hne : a.block ≠ g) (hc : w.cell? a = some v) : W.cell? a = some v := by
  rw [← hc]
  exact World.cell?_of_block (h.block _ (World.block_lt_of_cell? w a hc) hne)
theorem add_block (ad : Addr) (i : Nat) : (ad.add i).block = ad.block := by unfold Addr.add; split <;> rfl
theorem Bs.only {g : Nat} {w W : World} {A : Option Addr} {n c : Nat} {xs : List UInt8} (h : Bs w A n c xs) (ho : OnlyB g w W) (hne : ∀ ad, A = some ad → 0 < n → ad.block ≠ g) : Bs W A n c xs :=
  ⟨h.len, h.le, h.cap, h.lim, fun hn => by
    obtain ⟨ad, e, hc⟩ := h.cells hn
    exact ⟨ad, e, fun i hi => ho.cell (by rw [add_block]; exact hne ad e hn) (hc i hi)⟩⟩
theorem Bs.lt {w : World} {A : Option Addr} {n c : Nat} {xs : List UInt8} (h : Bs w A n c xs) : ∀ ad, A = some ad → 0 < n → ad.block < w.heap.size := by
  intro ad e hn
  obtain ⟨ad', e', hc⟩ := h.cells hn
  rw [e] at e'
  injection e' with e'
  subst e'
  have := World.block_lt_of_cell? w _ (hc 0 hn)
  rwa [add_block] at this
theorem Ow.ge {w : World} {base n c : Nat} {A : Option Addr} {xs : List UInt8} (h : Ow w base A n c xs) : ∀ ad, A = some ad → 0 < n → base ≤ ad.block := by
  intro ad e hn
  obtain ⟨g, hg, h1, _⟩ := h.head hn
  rw [hg] at e
  injection e with e
  subst e
  exact h1

/-! Each byte one more -/
def incTo (xs : List UInt8) (j : Nat) : List UInt8 := (xs.take j).map (· + 1) ++ xs.drop j
theorem incTo_zero (xs : List UInt8) : incTo xs 0 = xs := by simp [incTo]
theorem incTo_length (xs : List UInt8) (j : Nat) : (incTo xs j).length = xs.length := by simp [incTo]; omega
theorem incTo_succ (xs : List UInt8) (j : Nat) (h : j < xs.length) : incTo xs (j + 1) = (incTo xs j).set j ((incTo xs j).getD j 0 + 1) := by
  have e1 : (incTo xs j).getD j 0 = xs.getD j 0 := by
    simp [incTo, List.getD_eq_getElem?_getD, List.getElem?_append, Nat.min_eq_left (Nat.le_of_lt h), List.getElem?_drop]
  rw [e1]
  unfold incTo
  rw [List.take_succ_eq_append_getElem h, List.map_append, List.set_append_right _ _ (by simp [Nat.min_eq_left (Nat.le_of_lt h)]), List.drop_eq_getElem_cons h]
  have e2 : j - (List.map (fun x : UInt8 => x + 1) (List.take j xs)).length = 0 := by simp [Nat.min_eq_left (Nat.le_of_lt h)]
  rw [e2, List.set_cons_zero]
  simp [List.getD_eq_getElem?_getD, List.getElem?_eq_getElem h]
theorem incTo_ne (xs : List UInt8) (h : 0 < xs.length) : incTo xs xs.length ≠ xs := by
  intro e
  cases xs with
  | nil => simp at h
  | cons x xs =>
    simp [incTo] at e
theorem inc_val (S : List UInt8) (j : Nat) : (b8 S j + 1) % 256 = (((S.getD j 0 + 1).toNat : Nat) : Int) := by
  unfold b8
  rw [UInt8.toNat_add]
  simp
theorem own_block {w w1 : World} {n c N : Nat} {A : Option Addr} {xs : List UInt8} (h : Ow w1 w.heap.size A n c xs) (hN : w.heap.size ≤ N) : ∃ g, w.heap.size ≤ g ∧ (g < w1.heap.size ∨ N < g) ∧ (0 < n → A = some ⟨g, 0, none⟩) := by
  by_cases hn : 0 < n
  · obtain ⟨g, h1, h2, h3, _⟩ := h.head hn
    exact ⟨g, h2, .inl h3, fun _ => h1⟩
  · exact ⟨N + 1, by omega, .inr (by omega), fun h => absurd h hn⟩
/-- What is known behind the making of the item, and behind each loop. -/
structure O5 (w : World) (g7 : Nat) (Ak : Option Addr) (nk ck : Nat) (xs : List UInt8) (Av : Option Addr) (nv cv : Nat) (ys : List UInt8) (A3 : Option Addr) (c3 : Nat) (A4 : Option Addr) (c4 : Nat) (W : World) : Prop where
  row : W.heap[g7]? = some (.cells #[.slice A3 nk c3, .slice A4 nv c4, .int .i64 0, .int .i64 0] 40)
  key : Bs W Ak nk ck xs
  val : Bs W Av nv cv ys
  k3 : Bs W A3 nk c3 xs
  v4 : Bs W A4 nv c4 ys
  bel : Below w.heap.size w W
theorem O5.step {w W W1 : World} {g7 : Nat} {Ak Av A3 A4 : Option Addr} {nk ck nv cv c3 c4 : Nat} {xs ys : List UInt8} (h : O5 w g7 Ak nk ck xs Av nv cv ys A3 c3 A4 c4 W) (hB : Below W.heap.size W W1) : O5 w g7 Ak nk ck xs Av nv cv ys A3 c3 A4 c4 W1 :=
  ⟨row_below h.row hB, h.key.below hB, h.val.below hB, h.k3.below hB, h.v4.below hB, below_then h.bel h.bel.size hB⟩
theorem O5.only {w W W1 : World} {g g7 : Nat} {Ak Av A3 A4 : Option Addr} {nk ck nv cv c3 c4 : Nat} {xs ys : List UInt8} (h : O5 w g7 Ak nk ck xs Av nv cv ys A3 c3 A4 c4 W) (ho : OnlyB g W W1) (h7 : g7 ≠ g) (hw : w.heap.size ≤ g)
    (hk : ∀ ad, Ak = some ad → 0 < nk → ad.block ≠ g) (hv : ∀ ad, Av = some ad → 0 < nv → ad.block ≠ g) (h3 : ∀ ad, A3 = some ad → 0 < nk → ad.block ≠ g) (h4 : ∀ ad, A4 = some ad → 0 < nv → ad.block ≠ g) : O5 w g7 Ak nk ck xs Av nv cv ys A3 c3 A4 c4 W1 :=
  ⟨by rw [ho.block g7 (Array.getElem?_eq_some_iff.1 h.row).1 h7]; exact h.row, h.key.only ho hk, h.val.only ho hv, h.k3.only ho h3, h.v4.only ho h4, ho.below h.bel hw (Nat.le_refl _)⟩

structure L5 (w : World) (g7 : Nat) (Ak : Option Addr) (nk ck : Nat) (xs : List UInt8) (Av : Option Addr) (nv cv : Nat) (ys : List UInt8) (A3 : Option Addr) (c3 : Nat) (A4 : Option Addr) (c4 : Nat) (A1 : Option Addr) (c1 : Nat) (zs : List UInt8) (g : Nat) (W : World) : Prop where
  o5 : O5 w g7 Ak nk ck xs Av nv cv ys A3 c3 A4 c4 W
  k : Bs W A1 nk c1 zs
  want : W.heap[g]? = some (.cells #[.slice Ak nk ck, .slice Av nv cv, .int .i64 0, .int .i64 0] 38)
theorem L5.step {w W W1 : World} {g7 g : Nat} {Ak Av A3 A4 A1 : Option Addr} {nk ck nv cv c3 c4 c1 : Nat} {xs ys zs : List UInt8} (h : L5 w g7 Ak nk ck xs Av nv cv ys A3 c3 A4 c4 A1 c1 zs g W) (hB : Below W.heap.size W W1) : L5 w g7 Ak nk ck xs Av nv cv ys A3 c3 A4 c4 A1 c1 zs g W1 :=
  ⟨h.o5.step hB, h.k.below hB, row_below h.want hB⟩

set_option maxHeartbeats 4000000 in
set_option maxRecDepth 100000 in
theorem itemOwn_walk (Ak : Option Addr) (nk ck : Nat) (xs : List UInt8) (Av : Option Addr) (nv cv : Nat) (ys : List UInt8) (w : World) (hb : Bs w Ak nk ck xs) (hb' : Bs w Av nv cv ys) :
    Calls Try.prog 12 #[.slice Ak nk ck, .slice Av nv cv] w fun e w' => e = .returned (.bool true) ∧ Below w.heap.size w w' := by
  have l1 := hb.lim
  have l2 := hb'.lim
  have HX := Aside0.mk (And.intro hb hb')
  clear hb hb'
  by_cases h1 : 100 < nk
  · have f1 : decide ((100 : Int) < (nk : Int)) = true := dI_t (by omega)
    go_enter Try.func12, Try.ntmps12
    go_wp2_with (go_at_call 26; refine (alive05_any _).mono ?_; rintro e w1 ⟨rfl, hB⟩)
    go_ret
    exact ⟨rfl, hB⟩
  have f1 : decide ((100 : Int) < (nk : Int)) = false := dI_f (by omega)
  by_cases h2 : 2000 < nv
  · have f2 : decide ((2000 : Int) < (nv : Int)) = true := dI_t (by omega)
    go_enter Try.func12, Try.ntmps12
    go_wp2_with (go_at_call 26; refine (alive05_any _).mono ?_; rintro e w1 ⟨rfl, hB⟩)
    go_ret
    exact ⟨rfl, hB⟩
  have f2 : decide ((2000 : Int) < (nv : Int)) = false := dI_f (by omega)
  clear h1 h2
  go_enter Try.func12, Try.ntmps12
  go_wp2_with (first | (at_builtin; refine wpl_a8 (w0 := w) w.heap.size rfl (.tmp 20) (.tmp 21) rfl _ 0 0 [] Ak nk ck xs nk xs rfl rfl (Ow.lit0 w w.heap.size w.heap.size rfl (Nat.le_refl _)) (HX.out.1.alloc _) ((Below.refl _ _).alloc (Nat.le_refl _) _) (by simp) (by omega) (by omega) rfl ?_; intro A1 c1 w1 hO1 hB1) | (at_builtin; refine wpl_a8 (w0 := w1) w1.heap.size rfl (.tmp 23) (.tmp 24) rfl _ 0 0 [] Av nv cv ys nv ys rfl rfl (Ow.lit0 w1 w1.heap.size w1.heap.size rfl (Nat.le_refl _)) ((HX.out.2.below hB1.out).alloc _) ((Below.refl _ _).alloc (Nat.le_refl _) _) (by simp) (by omega) (by omega) rfl ?_; intro A2 c2 w2 hO2 hB2) | (go_at_call 52; refine (iof_any A1 nk c1 xs A2 nv c2 ys _ (hO1.out.bs.below hB2.out) hO2.out.bs).mono ?_; rintro e w3 ⟨A3, c3, A4, c4, rfl, hO3, hO4, hB3⟩; (have HO := Aside0.mk (And.intro hO3 (And.intro hO4 hB3))); clear hO3 hO4 hB3))
  obtain ⟨g1, p1, p2, p3⟩ := own_block (N := w3.heap.size) hO1.out (by have := hB1.out.size; have := hB2.out.size; have := HO.out.2.2.size; omega)
  obtain ⟨g2, q1, q2, q3⟩ := own_block (N := w3.heap.size) hO2.out (by have := hB2.out.size; have := HO.out.2.2.size; omega)
  have hs := Aside0.mk (show w.heap.size ≤ w1.heap.size ∧ w1.heap.size ≤ w2.heap.size ∧ w2.heap.size ≤ w3.heap.size from ⟨hB1.out.size, hB2.out.size, HO.out.2.2.size⟩)
  have hB4 := below_then hB1.out hB1.out.size (below_then hB2.out hB2.out.size HO.out.2.2)
  have H4 := Aside0.mk (show O5 w w3.heap.size Ak nk ck xs Av nv cv ys A3 c3 A4 c4 (w3.alloc (.cells #[.slice A3 nk c3, .slice A4 nv c4, .int .i64 0, .int .i64 0] 40)) from
    ⟨heap_alloc_new _ _, (HX.out.1.below hB4).alloc _, (HX.out.2.below hB4).alloc _, HO.out.1.bs.alloc _, HO.out.2.1.bs.alloc _, hB4.alloc hB4.size _⟩)
  have HK := Aside0.mk (show Ow (w3.alloc (.cells #[.slice A3 nk c3, .slice A4 nv c4, .int .i64 0, .int .i64 0] 40)) w.heap.size A1 nk c1 xs ∧ Ow (w3.alloc (.cells #[.slice A3 nk c3, .slice A4 nv c4, .int .i64 0, .int .i64 0] 40)) w1.heap.size A2 nv c2 ys from
    ⟨((hO1.out.below hB2.out).below HO.out.2.2).alloc _, (hO2.out.below HO.out.2.2).alloc _⟩)
  have N1 := Aside0.mk (show (∀ ad, Ak = some ad → 0 < nk → ad.block ≠ g1 ∧ ad.block ≠ g2) ∧ (∀ ad, Av = some ad → 0 < nv → ad.block ≠ g1 ∧ ad.block ≠ g2) ∧ (∀ ad, A3 = some ad → 0 < nk → ad.block ≠ g1 ∧ ad.block ≠ g2) ∧ (∀ ad, A4 = some ad → 0 < nv → ad.block ≠ g1 ∧ ad.block ≠ g2) from by
    obtain ⟨s1, s2, s3⟩ := hs.out
    refine ⟨fun ad e hn => ?_, fun ad e hn => ?_, fun ad e hn => ?_, fun ad e hn => ?_⟩
    · have := HX.out.1.lt ad e hn; omega
    · have := HX.out.2.lt ad e hn; omega
    · have := HO.out.1.ge ad e hn; have := HO.out.1.bs.lt ad e hn; omega
    · have := HO.out.2.1.ge ad e hn; have := HO.out.2.1.bs.lt ad e hn; omega)
  have N2 := Aside0.mk (show w3.heap.size ≠ g1 ∧ w3.heap.size ≠ g2 ∧ w.heap.size ≤ g2 from by obtain ⟨s1, s2, s3⟩ := hs.out; omega)
  have N3 := Aside0.mk (show (0 < nk → g1 < w1.heap.size) ∧ (∀ ad, A2 = some ad → 0 < nv → ad.block ≠ g1) from by
    obtain ⟨s1, s2, s3⟩ := hs.out
    refine ⟨fun hn => ?_, fun ad e hn => ?_⟩
    · obtain ⟨g, h1, h2, h3, _⟩ := hO1.out.head hn
      rw [p3 hn] at h1
      injection h1 with h1
      injection h1 with h1
      omega
    · have := hO2.out.ge ad e hn; have := hO2.out.bs.lt ad e hn; omega)
  have hsz := Aside0.mk (show (w3.alloc (.cells #[.slice A3 nk c3, .slice A4 nv c4, .int .i64 0, .int .i64 0] 40)).heap.size = w3.heap.size + 1 from by simp)
  have hp2 := Aside0.mk p2
  clear HO hB4 hO1 hO2 hB1 hB2 q2 p2
  generalize w3.heap.size = g7 at *
  generalize w3.alloc (.cells #[.slice A3 nk c3, .slice A4 nv c4, .int .i64 0, .int .i64 0] 40) = w4 at *
  go_loopg [31] nk (fun k v wr => ∃ j : Nat, Aside (k + j = nk) ∧ v = .int .i64 (j : Int) ∧ Aside0 (Ow wr w.heap.size A1 nk c1 (incTo xs j)) ∧ Aside0 (OnlyB g1 w4 wr))
  case atStart => exact ⟨0, rfl, rfl, ⟨by rw [incTo_zero]; exact HK.out.1⟩, ⟨OnlyB.refl _ _⟩⟩
  case round =>
    obtain ⟨j, hk, rfl, hO, hW⟩ := hrel
    have hjb : j ≤ nk := by have := hk.out; omega
    by_cases hlt : j < nk
    · have hA := p3 (by omega)
      subst hA
      obtain ⟨adx, hadx, cx⟩ := hO.out.bs.atN j hlt
      injection hadx with hadx
      subst hadx
      rw [add_plain] at cx
      obtain ⟨_, hg, _, _, hf⟩ := hO.out.head (by omega)
      injection hg with hg
      injection hg with hg
      subst hg
      have hfj := hf j
      clear hf
      have hjn : (j : Int) < (nk : Int) := by omega
      go_wp2
      go_roundg (nk - (j + 1))
      case measure => have := hk.out; omega
      case rel =>
        refine ⟨j + 1, by have := hk.out; exact (show nk - (j + 1) + (j + 1) = nk by omega), by go_num, ⟨?_⟩, ⟨hW.out.set j _⟩⟩
        rw [inc_val, incTo_succ _ _ (by have := hO.out.len; rw [incTo_length] at this; omega)]
        exact hO.out.store j _
    · obtain rfl : j = nk := by omega
      have H5 := Aside0.mk (H4.out.only hW.out N2.out.1 p1 (fun ad e hn => (N1.out.1 ad e hn).1) (fun ad e hn => (N1.out.2.1 ad e hn).1) (fun ad e hn => (N1.out.2.2.1 ad e hn).1) (fun ad e hn => (N1.out.2.2.2 ad e hn).1))
      have H6 := Aside0.mk (HK.out.2.kept' (w1 := wr) fun g hg hgl => hW.out.block g hgl (by have := hp2.out; have := hsz.out; omega))
      have HK6 := Aside0.mk hO.out.bs
      have hs6 := Aside0.mk hW.out.size
      generalize wr = wa at H5 H6 HK6 hs6 ⊢
      go_wp2
      clear H4 HK
      go_loopg [43] nv (fun k v wr => ∃ i : Nat, Aside (k + i = nv) ∧ v = .int .i64 (i : Int) ∧ Aside0 (Ow wr w1.heap.size A2 nv c2 (incTo ys i)) ∧ Aside0 (OnlyB g2 wa wr))
      case atStart => exact ⟨0, rfl, rfl, ⟨by rw [incTo_zero]; exact H6.out⟩, ⟨OnlyB.refl _ _⟩⟩
      case round =>
        obtain ⟨i, hk, rfl, hO, hW⟩ := hrel
        have hib : i ≤ nv := by have := hk.out; omega
        by_cases hlt2 : i < nv
        · have hA := q3 (by omega)
          subst hA
          obtain ⟨adx, hadx, cx⟩ := hO.out.bs.atN i hlt2
          injection hadx with hadx
          subst hadx
          rw [add_plain] at cx
          obtain ⟨_, hg, _, _, hf⟩ := hO.out.head (by omega)
          injection hg with hg
          injection hg with hg
          subst hg
          have hfj := hf i
          clear hf
          have hjn : (i : Int) < (nv : Int) := by omega
          go_wp2
          go_roundg (nv - (i + 1))
          case measure => have := hk.out; omega
          case rel =>
            refine ⟨i + 1, by have := hk.out; exact (show nv - (i + 1) + (i + 1) = nv by omega), by go_num, ⟨?_⟩, ⟨hW.out.set i _⟩⟩
            rw [inc_val, incTo_succ _ _ (by have := hO.out.len; rw [incTo_length] at this; omega)]
            exact hO.out.store i _
        · obtain rfl : i = nv := by omega
          have H7 := Aside0.mk (H5.out.only hW.out N2.out.2.1 N2.out.2.2 (fun ad e hn => (N1.out.1 ad e hn).2) (fun ad e hn => (N1.out.2.1 ad e hn).2) (fun ad e hn => (N1.out.2.2.1 ad e hn).2) (fun ad e hn => (N1.out.2.2.2 ad e hn).2))
          have H8 := Aside0.mk (HK6.out.only hW.out fun ad e hn => by
            have := p3 hn
            rw [this] at e
            injection e with e
            subst e
            exact (show g1 ≠ g2 by have := N3.out.1 hn; omega))
          have HL := Aside0.mk (show L5 w g7 Ak j ck xs Av i cv ys A3 c3 A4 c4 A1 c1 (incTo xs j) wr.heap.size (wr.alloc (.cells #[.slice Ak j ck, .slice Av i cv, .int .i64 0, .int .i64 0] 38)) from ⟨H7.out.step (bel1 _ _), H8.out.alloc _, heap_alloc_new _ _⟩)
          clear hO hW H5 H6 H7 H8 HK6 hk N1 N2 N3
          have v1 : sameB xs ys xs ys 0 0 0 0 = true := by unfold sameB; exact decide_eq_true ⟨rfl, rfl, rfl, rfl⟩
          have v3 : sameB xs ys xs ys 0 0 0 2 = false := by unfold sameB; exact decide_eq_false (fun h => absurd h.2.2.2 (by decide))
          by_cases hn0 : j = 0
          · have z1 : ((j : Int) == 0) = true := beq_t (by omega)
            have z2 : (j == 0) = true := beq_iff_eq.mpr hn0
            clear hn0
            go_wp2_with (first | (go_at_call 26; refine (alive05_any _).mono ?_; rintro e w6 ⟨rfl, hB⟩; (replace HL := Aside0.mk (HL.out.step hB)); (obtain ⟨m0, m1, m2, m3⟩ := item_cells2 HL.out.o5.row); (obtain ⟨n0, n1, n2, n3⟩ := item_cells2 HL.out.want); clear hB) | (go_at_call 53; refine (rsame_any A3 j c3 xs A4 i c4 ys 0 0 Ak j ck xs Av i cv ys 0 0 _ ⟨HL.out.o5.k3, HL.out.o5.v4, HL.out.o5.key, HL.out.o5.val⟩).mono ?_; rintro e w7 ⟨rfl, hB⟩; rw [v1]; (replace HL := Aside0.mk (HL.out.step hB)); (obtain ⟨m0, m1, m2, m3⟩ := item_cells2 HL.out.o5.row); (obtain ⟨n0, n1, n2, n3⟩ := item_cells2 HL.out.want); clear hB) | (go_at_call 54; first | ((with_reducible refine (isame_any A3 j c3 xs A4 i c4 ys 0 0 Ak j ck xs Av i cv ys 0 0 _ ⟨HL.out.o5.k3, HL.out.o5.v4, HL.out.o5.key, HL.out.o5.val⟩).mono ?_); rintro e w8 ⟨rfl, hB⟩; rw [v1]; (replace HL := Aside0.mk (HL.out.step hB)); (obtain ⟨m0, m1, m2, m3⟩ := item_cells2 HL.out.o5.row); (obtain ⟨n0, n1, n2, n3⟩ := item_cells2 HL.out.want); clear hB) | ((with_reducible refine (isame_any A3 j c3 xs A4 i c4 ys 0 0 A1 j c1 (incTo xs j) Av i cv ys 0 0 _ ⟨HL.out.o5.k3, HL.out.o5.v4, HL.out.k, HL.out.o5.val⟩).mono ?_); rintro e w8 ⟨rfl, hB⟩; rw [v2]; (replace HL := Aside0.mk (HL.out.step hB)); (obtain ⟨m0, m1, m2, m3⟩ := item_cells2 HL.out.o5.row); (obtain ⟨n0, n1, n2, n3⟩ := item_cells2 HL.out.want); clear hB) | ((with_reducible refine (isame_any A3 j c3 xs A4 i c4 ys 0 0 Ak j ck xs Av i cv ys 0 2 _ ⟨HL.out.o5.k3, HL.out.o5.v4, HL.out.o5.key, HL.out.o5.val⟩).mono ?_); rintro e w8 ⟨rfl, hB⟩; rw [v3]; (replace HL := Aside0.mk (HL.out.step hB)); clear hB)))
            go_ret
            exact ⟨ret_bool (by first | rfl | simp), HL.out.o5.bel⟩
          · have z1 : ((j : Int) == 0) = false := beq_f (by omega)
            have z2 : (j == 0) = false := beq_eq_false_iff_ne.mpr hn0
            have v2 : sameB xs ys (incTo xs j) ys 0 0 0 0 = false := by
              unfold sameB
              refine decide_eq_false (fun h => incTo_ne xs (by have := HL.out.o5.key.len; omega) ?_)
              have := HL.out.o5.key.len
              rw [this]
              exact h.1.symm
            go_wp2_with (first | (go_at_call 26; refine (alive05_any _).mono ?_; rintro e w6 ⟨rfl, hB⟩; (replace HL := Aside0.mk (HL.out.step hB)); (obtain ⟨m0, m1, m2, m3⟩ := item_cells2 HL.out.o5.row); (obtain ⟨n0, n1, n2, n3⟩ := item_cells2 HL.out.want); clear hB) | (go_at_call 53; refine (rsame_any A3 j c3 xs A4 i c4 ys 0 0 Ak j ck xs Av i cv ys 0 0 _ ⟨HL.out.o5.k3, HL.out.o5.v4, HL.out.o5.key, HL.out.o5.val⟩).mono ?_; rintro e w7 ⟨rfl, hB⟩; rw [v1]; (replace HL := Aside0.mk (HL.out.step hB)); (obtain ⟨m0, m1, m2, m3⟩ := item_cells2 HL.out.o5.row); (obtain ⟨n0, n1, n2, n3⟩ := item_cells2 HL.out.want); clear hB) | (go_at_call 54; first | ((with_reducible refine (isame_any A3 j c3 xs A4 i c4 ys 0 0 Ak j ck xs Av i cv ys 0 0 _ ⟨HL.out.o5.k3, HL.out.o5.v4, HL.out.o5.key, HL.out.o5.val⟩).mono ?_); rintro e w8 ⟨rfl, hB⟩; rw [v1]; (replace HL := Aside0.mk (HL.out.step hB)); (obtain ⟨m0, m1, m2, m3⟩ := item_cells2 HL.out.o5.row); (obtain ⟨n0, n1, n2, n3⟩ := item_cells2 HL.out.want); clear hB) | ((with_reducible refine (isame_any A3 j c3 xs A4 i c4 ys 0 0 A1 j c1 (incTo xs j) Av i cv ys 0 0 _ ⟨HL.out.o5.k3, HL.out.o5.v4, HL.out.k, HL.out.o5.val⟩).mono ?_); rintro e w8 ⟨rfl, hB⟩; rw [v2]; (replace HL := Aside0.mk (HL.out.step hB)); (obtain ⟨m0, m1, m2, m3⟩ := item_cells2 HL.out.o5.row); (obtain ⟨n0, n1, n2, n3⟩ := item_cells2 HL.out.want); clear hB) | ((with_reducible refine (isame_any A3 j c3 xs A4 i c4 ys 0 0 Ak j ck xs Av i cv ys 0 2 _ ⟨HL.out.o5.k3, HL.out.o5.v4, HL.out.o5.key, HL.out.o5.val⟩).mono ?_); rintro e w8 ⟨rfl, hB⟩; rw [v3]; (replace HL := Aside0.mk (HL.out.step hB)); clear hB)))
            go_ret
            exact ⟨ret_bool (by first | rfl | simp), HL.out.o5.bel⟩
end Go.Proofs.Ytaoaenjhclicfaa
