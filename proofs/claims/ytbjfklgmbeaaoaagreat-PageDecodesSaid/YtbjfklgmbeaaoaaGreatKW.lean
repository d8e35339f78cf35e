/- The walk of ref07's Decode. -/
import Derived.Test.YtbjfklgmbeaaoaaGreatKV
import Derived.Deep.CutRange
set_option linter.unusedVariables false
set_option linter.unusedSimpArgs false
namespace Go.Proofs.YtbjfklgmbeaaoaaGreat
open Go.RowKit

theorem wpOp_list {P : Program} {ops : Array Oper} {Q : Exit → Act → World → Prop} {R : Act → World → Prop} {i : Nat} {o : Oper} {a : Act} {w : World} (ho : ops[i]? = some o)
    (h : wpList P ops (fun e a' w' => e = .normal ∧ R a' w') [o] a w) : wpOp P ops Q i R a w := by
  unfold wpOp
  simp only [ho]
  rw [wpList] at h
  split at h
  · rename_i hw
    rw [if_pos hw]
    rcases h with h | ⟨_, _, _, h, _⟩
    · refine .inl ?_
      unfold Oper.wp at *
      generalize (execOp a.eval o).run P w = r at *
      cases r with
      | ok n w' =>
        cases n <;> simp only [Oper.upon] at h ⊢ <;>
          first
            | exact h.2
            | exact Calls.mono h (fun e w'' he => by
                cases e <;> first | exact he.2 | exact absurd he.1 (by intro h; cases h) | (obtain ⟨_, _, he, _⟩ := he; cases he))
            | exact Rows.mono h (fun u w'' he => he.2)
      | halt x w' => cases x <;> simp only [Oper.upon] at h ⊢ <;> first | exact h | exact absurd h.1 (by intro h; cases h)
    · cases h
  · rename_i hw
    rw [if_neg hw]
    exact h.2
/-- Two may come up: each way. -/
theorem wpAnyM_two {P : Program} {md : Region.Mode} {ops : Array Oper} {Q : Exit → Act → World → Prop} {S : World → Prop} {p : Nat → Bool} {i j : Nat} {o o2 : Oper} {fuel : Nat} {listed : Array Bool} {a : Act} {w : World}
    (hr : Region.ready md ops listed = [i, j]) (ho : ops[i]? = some o) (ho2 : ops[j]? = some o2)
    (h : wpList P ops (fun e a' w' => e = .normal ∧ (p i = true → S w') ∧ wpAnyM P md ops Q S p fuel (listed.setIfInBounds i true) a' w') [o] a w)
    (h2 : wpList P ops (fun e a' w' => e = .normal ∧ (p j = true → S w') ∧ wpAnyM P md ops Q S p fuel (listed.setIfInBounds j true) a' w') [o2] a w) : wpAnyM P md ops Q S p (fuel + 1) listed a w := by
  refine ⟨fun q => (by rw [hr] at q; cases q), fun k hk => ?_⟩
  rw [hr] at hk
  rcases List.mem_cons.1 hk with rfl | hk
  · exact wpOp_list ho h
  · obtain rfl : k = j := by simpa using hk
    exact wpOp_list ho2 h2
theorem cells3_at {W : World} {g : Nat} {T : TypeId} {a b c v : Value} (h : W.heap[g]? = some (.cells #[a, b, c] T)) (ad : Addr) (hb : ad.block = g) (hc : W.cell? ad = some v) : v = a ∨ v = b ∨ v = c := by
  unfold World.cell? at hc
  rw [hb, h] at hc
  dsimp only at hc
  split at hc
  · cases hc
  · obtain ⟨bl, off, sp⟩ := ad
    simp only at hc
    rcases (show off = 0 ∨ off = 1 ∨ off = 2 ∨ 3 ≤ off by omega) with r | r | r | r
    · subst r; injection hc with hc; exact .inl hc.symm
    · subst r; injection hc with hc; exact .inr (.inl hc.symm)
    · subst r; injection hc with hc; exact .inr (.inr hc.symm)
    · rw [Array.getElem?_eq_none (by simpa using r)] at hc
      cases hc
theorem cells3_int {W : World} {g : Nat} {T : TypeId} {b : Bool} {A1 B1 : Option Addr} {n1 c1 m1 e1 : Nat} (h : W.heap[g]? = some (.cells #[.bool b, .slice A1 n1 c1, .slice B1 m1 e1] T)) {ad : Addr} {k : IntKind} {z : Int} (hc : W.cell? ad = some (.int k z)) : ad.block ≠ g := fun hb => by
  rcases cells3_at h ad hb hc with r | r | r <;> cases r
theorem Bs.only9 {W W1 : World} {g : Nat} {T : TypeId} {b : Bool} {A1 B1 : Option Addr} {n1 c1 m1 e1 : Nat} (h : W.heap[g]? = some (.cells #[.bool b, .slice A1 n1 c1, .slice B1 m1 e1] T)) (ho : OnlyB g W W1) {A : Option Addr} {n c : Nat} {xs : List UInt8} (k : Bs W A n c xs) : Bs W1 A n c xs :=
  k.only ho fun ad e h0 => by
    obtain ⟨ad', e', hc⟩ := k.cells h0
    rw [e] at e'
    injection e' with e'
    subst e'
    have := cells3_int h (hc 0 h0)
    rwa [add_block] at this
theorem Rc.only9 {W X : World} {g k : Nat} {A : Option Addr} {n c : Nat} {xs : List Value} (h : Rc W k A n c xs) (ho : OnlyB g W X) (hg : 0 < n → ∀ a, A = some a → a.block ≠ g) : Rc X k A n c xs :=
  ⟨h.len, h.le, h.cap, h.lim, h.one, fun h0 => by
    obtain ⟨ad, e, hc⟩ := h.cells h0
    refine ⟨ad, e, fun j u hj => ?_⟩
    have h1 := hc j u hj
    exact (World.cell?_of_block (ho.block _ (World.block_lt_of_cell? W _ h1) (by rw [add_block]; exact hg h0 ad e))).trans h1⟩
theorem Nd.only9 {W W1 : World} {g : Nat} {T : TypeId} {b : Bool} {A1 B1 : Option Addr} {n1 c1 m1 e1 : Nat} (h : W.heap[g]? = some (.cells #[.bool b, .slice A1 n1 c1, .slice B1 m1 e1] T)) (ho : OnlyB g W W1) {hh : NH} {is : List IH} {ks : List KH} {v : NV} (k : Nd W hh is ks v) : Nd W1 hh is ks v := by
  refine ⟨k.leaf, k.ri.only9 ho fun h0 a e hb => ?_, k.rk.only9 ho fun h0 a e hb => ?_, k.li, k.lk, ⟨k.its.len, fun j p hj => ?_⟩, ⟨k.kds.len, fun j p hj => ?_⟩, k.bi, k.bk⟩
  · obtain ⟨ad, e', hc⟩ := k.ri.cells h0
    rw [e] at e'
    injection e' with e'
    subst e'
    have hl := k.li
    cases is with
    | nil => simp at hl; omega
    | cons p r => exact cells3_int h (hc 2 (.int .i64 p.s) rfl) (by rw [add_block]; exact hb)
  · obtain ⟨ad, e', hc⟩ := k.rk.cells h0
    rw [e] at e'
    injection e' with e'
    subst e'
    have hl := k.lk
    cases ks with
    | nil => simp at hl; omega
    | cons p r => exact cells3_int h (hc 1 (.int .i64 p.r) rfl) (by rw [add_block]; exact hb)
  · obtain ⟨q, a, x, y, d, e⟩ := k.its.each j p hj
    exact ⟨q, a, Bs.only9 h ho x, Bs.only9 h ho y, d, e⟩
  · obtain ⟨q, a, x, d⟩ := k.kds.each j p hj
    exact ⟨q, a, Bs.only9 h ho x, d⟩
/-- The boxes of ref07's Decode: its result, the empty node, the head. -/
structure DqH (w : World) (N Z M : Nat) (oh : Obj) (W : World) : Prop where
  rn : W.heap[N]? = some (.cells #[.bool false, .slice none 0 0, .slice none 0 0] 35)
  rz : W.heap[Z]? = some (.cells #[.bool false, .slice none 0 0, .slice none 0 0] 35)
  rm : W.heap[M]? = some oh
  bel : Below w.heap.size w W
  lo : w.heap.size ≤ N ∧ N < Z
theorem DqH.step {w : World} {N Z M : Nat} {oh : Obj} {W W1 : World} (h : DqH w N Z M oh W) (hB : Below W.heap.size W W1) : DqH w N Z M oh W1 :=
  ⟨(hB.block _ (Array.getElem?_eq_some_iff.1 h.rn).1).trans h.rn, (hB.block _ (Array.getElem?_eq_some_iff.1 h.rz).1).trans h.rz, (hB.block _ (Array.getElem?_eq_some_iff.1 h.rm).1).trans h.rm, below_then h.bel h.bel.size hB, h.lo⟩
theorem DqH.start (w : World) : DqH w w.heap.size (w.heap.size + 1) (w.heap.size + 1) (.cells #[.bool false, .slice none 0 0, .slice none 0 0] 35) ((w.alloc (.cells #[.bool false, .slice none 0 0, .slice none 0 0] 35)).alloc (.cells #[.bool false, .slice none 0 0, .slice none 0 0] 35)) := by
  have s1 : (w.alloc (.cells #[.bool false, .slice none 0 0, .slice none 0 0] 35)).heap.size = w.heap.size + 1 := by simp
  have b1 := (Below.refl _ w).alloc (Nat.le_refl _) (.cells #[.bool false, .slice none 0 0, .slice none 0 0] 35)
  have b2 := (Below.refl _ (w.alloc (.cells #[.bool false, .slice none 0 0, .slice none 0 0] 35))).alloc (Nat.le_refl _) (.cells #[.bool false, .slice none 0 0, .slice none 0 0] 35)
  have r1 := heap_alloc_new w (.cells #[.bool false, .slice none 0 0, .slice none 0 0] 35)
  have r2 := heap_alloc_new (w.alloc (.cells #[.bool false, .slice none 0 0, .slice none 0 0] 35)) (.cells #[.bool false, .slice none 0 0, .slice none 0 0] 35)
  rw [s1] at r2
  exact ⟨(b2.block _ (by omega)).trans r1, r2, r2, below_then b1 b1.size b2, Nat.le_refl _, by omega⟩
theorem DqH.head {w : World} {N Z M : Nat} {oh : Obj} {W : World} (h : DqH w N Z M oh W) (o : Obj) : DqH w N Z W.heap.size o (W.alloc o) := by
  have k := h.step ((Below.refl _ W).alloc (Nat.le_refl _) o)
  exact ⟨k.rn, k.rz, heap_alloc_new W o, k.bel, k.lo⟩
/-- And the box of the node that was found. -/
structure DqT (w : World) (N Z M : Nat) (oh : Obj) (T : Nat) (ot : Obj) (W : World) : Prop where
  h : DqH w N Z M oh W
  rt : W.heap[T]? = some ot
  lt : N < T ∧ Z < T ∧ M < T ∧ w.heap.size ≤ T
theorem DqH.new {w : World} {N Z M : Nat} {oh : Obj} {W : World} (h : DqH w N Z M oh W) (o : Obj) : DqT w N Z M oh W.heap.size o (W.alloc o) :=
  ⟨h.step ((Below.refl _ W).alloc (Nat.le_refl _) o), heap_alloc_new W o, (Array.getElem?_eq_some_iff.1 h.rn).1, (Array.getElem?_eq_some_iff.1 h.rz).1, (Array.getElem?_eq_some_iff.1 h.rm).1, h.bel.size⟩
theorem DqT.step {w : World} {N Z M T : Nat} {oh ot : Obj} {W W1 : World} (k : DqT w N Z M oh T ot W) (hB : Below W.heap.size W W1) : DqT w N Z M oh T ot W1 :=
  ⟨k.h.step hB, (hB.block _ (Array.getElem?_eq_some_iff.1 k.rt).1).trans k.rt, k.lt⟩
theorem DqT.put {w : World} {N Z M T : Nat} {oh : Obj} {TT : TypeId} {x y z : Value} {W : World} (k : DqT w N Z M oh T (.cells #[x, y, z] TT) W) (a b c : Value) : DqT w N Z M oh T (.cells #[a, b, c] TT) (((W.setCell ⟨T, 0, none⟩ a).setCell ⟨T, 1, none⟩ b).setCell ⟨T, 2, none⟩ c) := by
  have ho := nonly_set3 (W := W) (g := T) a b c
  obtain ⟨l1, l2, l3, l4⟩ := k.lt
  exact ⟨⟨(ho.block _ (Array.getElem?_eq_some_iff.1 k.h.rn).1 (by omega)).trans k.h.rn, (ho.block _ (Array.getElem?_eq_some_iff.1 k.h.rz).1 (by omega)).trans k.h.rz, (ho.block _ (Array.getElem?_eq_some_iff.1 k.h.rm).1 (by omega)).trans k.h.rm, ho.below k.h.bel l4 (Nat.le_refl _), k.h.lo⟩, nrow3_set a b c k.rt, k.lt⟩
set_option maxHeartbeats 16000000 in
set_option maxRecDepth 100000 in
theorem rdecode_any (A : Option Addr) (n c : Nat) (xs : List UInt8) (w : World) (hb : Bs w A n c xs) :
    Calls Tryz.prog 7 #[.slice A n c] w fun e w' => ∃ h is ks, e = .returned (.tuple #[.int .i64 (decG xs), .agg (nhv h), .int .i64 (decE xs)]) ∧ Nd w' h is ks (decV xs) ∧ Below w.heap.size w w' := by
  have HX := Aside0.mk hb
  have hn : xs.length = n := hb.len
  have hlim := hb.lim
  have HNL := Aside0.mk hn
  clear hb
  go_enter Tryz.func7, Tryz.ntmps7
  go_upto_region 2 with fail
  have hA := DqH.start w
  obtain ⟨w0, hw0⟩ : ∃ X, (w.alloc (.cells #[.bool false, .slice none 0 0, .slice none 0 0] 35)).alloc (.cells #[.bool false, .slice none 0 0, .slice none 0 0] 35) = X := ⟨_, rfl⟩
  obtain ⟨Z, hZ⟩ : ∃ X, w.heap.size + 1 = X := ⟨_, rfl⟩
  rw [hw0, hZ] at hA
  rw [hw0]
  try rw [hZ]
  obtain ⟨N, hN⟩ : ∃ X, w.heap.size = X := ⟨_, rfl⟩
  have H0 := Aside0.mk (show DqH w N Z Z (.cells #[.bool false, .slice none 0 0, .slice none 0 0] 35) w0 from by rw [← hN]; exact hA)
  rw [hN]
  clear hA hw0 hZ hN
  by_cases q2 : n = 256
  case neg =>
    have g2 : ((n : Int) != 256) = true := bne_iff_ne.2 (by omega)
    have HE := Aside0.mk (show decE xs = 72 from by unfold decE; rw [if_pos (by omega)])
    clear q2 hn
    go_upto_region 3 with fail
    have h3 := H0.out.step (below_drew (Below.refl _ w0))
    obtain ⟨v0, hv0⟩ : ∃ X, w0.drew = X := ⟨_, rfl⟩
    rw [hv0] at h3
    have HF0 := Aside0.mk h3
    clear h3
    have HSZ := Aside0.mk (nd_cells HF0.out.rz)
    refine wp_region_M (fun j => decide (j < 2)) (fun w' => w'.cell? ⟨Z, 0, none⟩ = some (.bool false) ∧ w'.cell? ⟨Z, 1, none⟩ = some (.slice none 0 0) ∧ w'.cell? ⟨Z, 2, none⟩ = some (.slice none 0 0)) (by kernel_rfl) ?_
    rw [hv0]
    clear hv0
    refine wpAnyM_take (i := 0) (v := ?_) (by simp only [List.getElem?_toArray, List.getElem?_cons_succ, List.getElem?_cons_zero]; rfl) (by kernel_rfl) (by kernel_rfl) (by kernel_rfl) (by kernel_rfl) (by exact fun _ _ _ h => h) (Or.inl ⟨by rfl, ?_⟩) HSZ.out ?_
    rotate_left
    · (intro w' hSw; (try dsimp only at hSw); go_simp; try with_reducible rfl)
    try simp only [Act.put, List.setIfInBounds_toArray, List.set_cons_zero, List.set_cons_succ]
    refine wpAnyM_one (i := 1) (by kernel_rfl) (by simp only [List.getElem?_toArray, List.getElem?_cons_succ, List.getElem?_cons_zero]; rfl) ?_
    go_wp2_with fail
    refine ⟨HSZ.out, ?_⟩
    try simp only [Act.put, List.setIfInBounds_toArray, List.set_cons_zero, List.set_cons_succ]
    obtain ⟨z0, z1, z2⟩ := nd_cells HF0.out.rn
    have zN := fun j => Go.Joins.unfrozen_of_block HF0.out.rn j
    have HDL := Aside0.mk (rnload (nrow3_set (.bool false) (.slice none 0 0) (.slice none 0 0) HF0.out.rn))
    have HOB := Aside0.mk (nonly_set3 (W := v0) (g := N) (.bool false) (.slice none 0 0) (.slice none 0 0))
    have HBF := Aside0.mk ((nonly_set3 (W := v0) (g := N) (.bool false) (.slice none 0 0) (.slice none 0 0)).below HF0.out.bel HF0.out.lo.1 (Nat.le_refl _))
    refine wpAnyM_one (i := 2) (by kernel_rfl) (by simp only [List.getElem?_toArray, List.getElem?_cons_succ, List.getElem?_cons_zero]; rfl) ?_
    go_wp2_with fail
    try simp only [Act.put, List.setIfInBounds_toArray, List.set_cons_zero, List.set_cons_succ]
    refine wpAnyM_one (i := 3) (by kernel_rfl) (by simp only [List.getElem?_toArray, List.getElem?_cons_succ, List.getElem?_cons_zero]; rfl) ?_
    go_wp2_with fail
    try simp only [Act.put, List.setIfInBounds_toArray, List.set_cons_zero, List.set_cons_succ]
    refine wpAnyM_done (by kernel_rfl) ?_ _
    have hD := HDL.out
    go_wp2_with fail
    refine bodyPost_ret (v := .tuple #[.int .i64 0, .agg #[.bool false, .slice none 0 0, .slice none 0 0], .int .i64 72]) (by simp [results, Tryz.results7, asAddr, hD]) rfl ?_
    exact dec_no HE.out (by decide) HBF.out
  case pos =>
    subst q2
    have g2 : (((256 : Nat) : Int) != 256) = false := by decide
    have g3 : ((256 : Int) != 256) = false := by decide
    have cH : ∀ W, Bs W A 256 c xs → Calls Tryz.prog 23 #[.slice A 256 c] W fun e w' => e = .returned (.tuple #[.agg (hV xs), .int .i64 (hE xs)]) ∧ Below W.heap.size W w' := fun W hW => rHeadOf_any A 256 c xs W hW
    by_cases q : hE xs = 0
    case neg =>
      unfold hV at cH
      rw [if_neg q] at cH
      have g1 : (hE xs != 0) = true := bne_iff_ne.2 q
      have HE := Aside0.mk (show decE xs = hE xs from by unfold decE; rw [if_neg (by omega), if_pos q])
      have HQ := Aside0.mk q
      clear q hn
      go_upto_region 5 with (go_at_call 23; refine (cH w0 (HX.out.below H0.out.bel)).mono ?_; rintro e w1 ⟨rfl, hB⟩; (have H1 := Aside0.mk (H0.out.step hB)); clear hB)
      have hA := H1.out.head (.cells #[.int .i64 0, .int .i64 0, .int .i64 0, .int .i64 0] 62)
      obtain ⟨M, hM⟩ : ∃ X, w1.heap.size = X := ⟨_, rfl⟩
      obtain ⟨w2, hw2⟩ : ∃ X, w1.alloc (.cells #[.int .i64 0, .int .i64 0, .int .i64 0, .int .i64 0] 62) = X := ⟨_, rfl⟩
      rw [hw2, hM] at hA
      rw [hw2, hM]
      have H2 := Aside0.mk hA
      clear hA hw2 hM cH
      go_upto_region 6 with fail
      have h3 := H2.out.step (below_drew (Below.refl _ w2))
      obtain ⟨v0, hv0⟩ : ∃ X, w2.drew = X := ⟨_, rfl⟩
      rw [hv0] at h3
      have HF0 := Aside0.mk h3
      clear h3
      have HSZ := Aside0.mk (nd_cells HF0.out.rz)
      refine wp_region_M (fun j => decide (j < 4)) (fun w' => w'.cell? ⟨Z, 0, none⟩ = some (.bool false) ∧ w'.cell? ⟨Z, 1, none⟩ = some (.slice none 0 0) ∧ w'.cell? ⟨Z, 2, none⟩ = some (.slice none 0 0)) (by kernel_rfl) ?_
      rw [hv0]
      clear hv0
      refine wpAnyM_take (i := 0) (v := ?_) (by simp only [List.getElem?_toArray, List.getElem?_cons_succ, List.getElem?_cons_zero]; rfl) (by kernel_rfl) (by kernel_rfl) (by kernel_rfl) (by kernel_rfl) (by exact fun _ _ _ h => h) (Or.inl ⟨by rfl, ?_⟩) HSZ.out ?_
      rotate_left
      · (intro w' hSw; (try dsimp only at hSw); go_simp; try with_reducible rfl)
      try simp only [Act.put, List.setIfInBounds_toArray, List.set_cons_zero, List.set_cons_succ]
      refine wpAnyM_take (i := 1) (v := ?_) (by simp only [List.getElem?_toArray, List.getElem?_cons_succ, List.getElem?_cons_zero]; rfl) (by kernel_rfl) (by kernel_rfl) (by kernel_rfl) (by kernel_rfl) (by exact fun _ _ _ h => h) (Or.inl ⟨by rfl, ?_⟩) HSZ.out ?_
      rotate_left
      · (intro w' hSw; (try dsimp only at hSw); go_simp; try with_reducible rfl)
      try simp only [Act.put, List.setIfInBounds_toArray, List.set_cons_zero, List.set_cons_succ]
      refine wpAnyM_one (i := 2) (by kernel_rfl) (by simp only [List.getElem?_toArray, List.getElem?_cons_succ, List.getElem?_cons_zero]; rfl) ?_
      go_wp2_with fail
      refine ⟨HSZ.out, ?_⟩
      try simp only [Act.put, List.setIfInBounds_toArray, List.set_cons_zero, List.set_cons_succ]
      obtain ⟨z0, z1, z2⟩ := nd_cells HF0.out.rn
      have zN := fun j => Go.Joins.unfrozen_of_block HF0.out.rn j
      have HDL := Aside0.mk (rnload (nrow3_set (.bool false) (.slice none 0 0) (.slice none 0 0) HF0.out.rn))
      have HOB := Aside0.mk (nonly_set3 (W := v0) (g := N) (.bool false) (.slice none 0 0) (.slice none 0 0))
      have HBF := Aside0.mk ((nonly_set3 (W := v0) (g := N) (.bool false) (.slice none 0 0) (.slice none 0 0)).below HF0.out.bel HF0.out.lo.1 (Nat.le_refl _))
      refine wpAnyM_one (i := 3) (by kernel_rfl) (by simp only [List.getElem?_toArray, List.getElem?_cons_succ, List.getElem?_cons_zero]; rfl) ?_
      go_wp2_with fail
      refine ⟨(by have h := nd_cells ((HOB.out.block Z (Array.getElem?_eq_some_iff.1 HF0.out.rz).1 (by have := HF0.out.lo; omega)).trans HF0.out.rz); simpa [go_sem] using h), ?_⟩
      try simp only [Act.put, List.setIfInBounds_toArray, List.set_cons_zero, List.set_cons_succ]
      refine wpAnyM_one (i := 4) (by kernel_rfl) (by simp only [List.getElem?_toArray, List.getElem?_cons_succ, List.getElem?_cons_zero]; rfl) ?_
      go_wp2_with fail
      try simp only [Act.put, List.setIfInBounds_toArray, List.set_cons_zero, List.set_cons_succ]
      refine wpAnyM_done (by kernel_rfl) ?_ _
      have hD := HDL.out
      go_wp2_with fail
      refine bodyPost_ret (v := .tuple #[.int .i64 0, .agg #[.bool false, .slice none 0 0, .slice none 0 0], .int .i64 (hE xs)]) (by simp [results, Tryz.results7, asAddr, hD]) rfl ?_
      exact dec_no HE.out HQ.out HBF.out
    case pos =>
      unfold hV at cH
      rw [if_pos q] at cH
      have g1 : (hE xs != 0) = false := bne_eq_false_iff_eq.2 q
      have HQ := Aside0.mk q
      go_upto_region 5 with (go_at_call 23; refine (cH w0 (HX.out.below H0.out.bel)).mono ?_; rintro e w1 ⟨rfl, hB⟩; (have H1 := Aside0.mk (H0.out.step hB)); clear hB)
      have hA := H1.out.head (.cells #[.int .i64 (hK xs), .int .i64 (hG xs), .int .i64 (hC xs), .int .i64 (hNx xs)] 62)
      obtain ⟨M, hM⟩ : ∃ X, w1.heap.size = X := ⟨_, rfl⟩
      obtain ⟨w2, hw2⟩ : ∃ X, w1.alloc (.cells #[.int .i64 (hK xs), .int .i64 (hG xs), .int .i64 (hC xs), .int .i64 (hNx xs)] 62) = X := ⟨_, rfl⟩
      rw [hw2, hM] at hA
      rw [hw2, hM]
      have H2 := Aside0.mk hA
      clear hA hw2 hM cH
      by_cases q3 : hK xs = 76 ∨ hK xs = 66
      case neg =>
        have g4 : (hK xs != 76) = true := bne_iff_ne.2 (fun e => q3 (.inl e))
        have g5 : (hK xs != 66) = true := bne_iff_ne.2 (fun e => q3 (.inr e))
        have HE := Aside0.mk (show decE xs = 70 from by unfold decE; rw [if_neg (by omega), if_neg (fun h => h q), if_pos q3])
        clear q q3 hn
        obtain ⟨y0, y1, y2, y3⟩ := item_cells2 H2.out.rm
        go_upto_region 8 with fail
        clear y0 y1 y2 y3
        have h3 := H2.out.step (below_drew (Below.refl _ w2))
        obtain ⟨v0, hv0⟩ : ∃ X, w2.drew = X := ⟨_, rfl⟩
        rw [hv0] at h3
        have HF0 := Aside0.mk h3
        clear h3
        have HSZ := Aside0.mk (nd_cells HF0.out.rz)
        refine wp_region_M (fun j => decide (j < 2)) (fun w' => w'.cell? ⟨Z, 0, none⟩ = some (.bool false) ∧ w'.cell? ⟨Z, 1, none⟩ = some (.slice none 0 0) ∧ w'.cell? ⟨Z, 2, none⟩ = some (.slice none 0 0)) (by kernel_rfl) ?_
        rw [hv0]
        clear hv0
        refine wpAnyM_take (i := 0) (v := ?_) (by simp only [List.getElem?_toArray, List.getElem?_cons_succ, List.getElem?_cons_zero]; rfl) (by kernel_rfl) (by kernel_rfl) (by kernel_rfl) (by kernel_rfl) (by exact fun _ _ _ h => h) (Or.inl ⟨by rfl, ?_⟩) HSZ.out ?_
        rotate_left
        · (intro w' hSw; (try dsimp only at hSw); go_simp; try with_reducible rfl)
        try simp only [Act.put, List.setIfInBounds_toArray, List.set_cons_zero, List.set_cons_succ]
        refine wpAnyM_one (i := 1) (by kernel_rfl) (by simp only [List.getElem?_toArray, List.getElem?_cons_succ, List.getElem?_cons_zero]; rfl) ?_
        go_wp2_with fail
        refine ⟨HSZ.out, ?_⟩
        try simp only [Act.put, List.setIfInBounds_toArray, List.set_cons_zero, List.set_cons_succ]
        obtain ⟨z0, z1, z2⟩ := nd_cells HF0.out.rn
        have zN := fun j => Go.Joins.unfrozen_of_block HF0.out.rn j
        have HDL := Aside0.mk (rnload (nrow3_set (.bool false) (.slice none 0 0) (.slice none 0 0) HF0.out.rn))
        have HOB := Aside0.mk (nonly_set3 (W := v0) (g := N) (.bool false) (.slice none 0 0) (.slice none 0 0))
        have HBF := Aside0.mk ((nonly_set3 (W := v0) (g := N) (.bool false) (.slice none 0 0) (.slice none 0 0)).below HF0.out.bel HF0.out.lo.1 (Nat.le_refl _))
        refine wpAnyM_one (i := 2) (by kernel_rfl) (by simp only [List.getElem?_toArray, List.getElem?_cons_succ, List.getElem?_cons_zero]; rfl) ?_
        go_wp2_with fail
        try simp only [Act.put, List.setIfInBounds_toArray, List.set_cons_zero, List.set_cons_succ]
        refine wpAnyM_one (i := 3) (by kernel_rfl) (by simp only [List.getElem?_toArray, List.getElem?_cons_succ, List.getElem?_cons_zero]; rfl) ?_
        go_wp2_with fail
        try simp only [Act.put, List.setIfInBounds_toArray, List.set_cons_zero, List.set_cons_succ]
        refine wpAnyM_done (by kernel_rfl) ?_ _
        have hD := HDL.out
        go_wp2_with fail
        refine bodyPost_ret (v := .tuple #[.int .i64 0, .agg #[.bool false, .slice none 0 0, .slice none 0 0], .int .i64 70]) (by simp [results, Tryz.results7, asAddr, hD]) rfl ?_
        exact dec_no HE.out (by decide) HBF.out
      case pos =>
        have HK := Aside0.mk q3
        have HGR := Aside0.mk (show 1 ≤ hG xs ∧ hG xs ≤ 3 from ⟨(hE_in q).2.2.1, (hE_in q).2.2.2.1⟩)
        clear q q3 hn
        go_upto_region 7 with fail
        go_cut [31] from 24 to 31 (fun v31 wx => v31 = .bool false ∧ Aside0 (DqH w N Z M (.cells #[.int .i64 (hK xs), .int .i64 (hG xs), .int .i64 (hC xs), .int .i64 (hNx xs)] 62) wx))
        case first =>
          obtain ⟨y0, y1, y2, y3⟩ := item_cells2 H2.out.rm
          have hkk : (hK xs != 76) = false ∨ ((hK xs != 76) = true ∧ (hK xs != 66) = false) := by
            rcases HK.out with q3 | q3
            · exact .inl (bne_eq_false_iff_eq.2 q3)
            · exact .inr ⟨bne_iff_ne.2 (by omega), bne_eq_false_iff_eq.2 q3⟩
          rcases hkk with g4 | ⟨g4, g5⟩
          · go_wp2_with fail
            go_meet
            exact ⟨rfl, ⟨H2.out⟩⟩
          · go_wp2_with fail
            go_meet
            exact ⟨rfl, ⟨H2.out⟩⟩
        case rest =>
          obtain ⟨rfl, HC⟩ := hcut
          clear H0 H1 H2
          go_upto_region 10 with (go_at_call 24; refine (rseal_any A 256 c xs 4 wc (HX.out.below HC.out.bel) (by omega)).mono ?_; rintro e w3 ⟨A2, c2, rfl, hO, hB⟩; (have H3 := Aside0.mk (And.intro (HC.out.step hB) hO.bs)); clear hO hB)
          by_cases q4 : 1 < hG xs ∧ ¬ sealB xs 4 = xs
          case pos =>
            have HE := Aside0.mk (show decE xs = 71 from by unfold decE; rw [if_neg (by have := HNL.out; omega), if_neg (fun h => h HQ.out), if_neg (fun h => h HK.out), if_pos q4])
            have d1 : decide (1 < hG xs) = true := decide_eq_true q4.1
            have s1 := conv8 H3.out.2
            have s2 := conv8 (HX.out.below H3.out.1.bel)
            have s3 : ((strB (rsealB xs 4)).toList == (strB xs).toList) = false := by rw [strB_list, strB_list, rsealB_eq]; exact beq_eq_false_iff_ne.2 q4.2
            clear q4
            obtain ⟨y0, y1, y2, y3⟩ := item_cells2 H3.out.1.rm
            go_upto_region 11 with fail
            clear y0 y1 y2 y3 s1 s2 s3
            have h3 := H3.out.1.step (below_drew (Below.refl _ w3))
            obtain ⟨v0, hv0⟩ : ∃ X, w3.drew = X := ⟨_, rfl⟩
            rw [hv0] at h3
            have HF0 := Aside0.mk h3
            clear h3
            have HSZ := Aside0.mk (nd_cells HF0.out.rz)
            refine wp_region_M (fun j => decide (j < 2)) (fun w' => w'.cell? ⟨Z, 0, none⟩ = some (.bool false) ∧ w'.cell? ⟨Z, 1, none⟩ = some (.slice none 0 0) ∧ w'.cell? ⟨Z, 2, none⟩ = some (.slice none 0 0)) (by kernel_rfl) ?_
            rw [hv0]
            clear hv0
            refine wpAnyM_take (i := 0) (v := ?_) (by simp only [List.getElem?_toArray, List.getElem?_cons_succ, List.getElem?_cons_zero]; rfl) (by kernel_rfl) (by kernel_rfl) (by kernel_rfl) (by kernel_rfl) (by exact fun _ _ _ h => h) (Or.inl ⟨by rfl, ?_⟩) HSZ.out ?_
            rotate_left
            · (intro w' hSw; (try dsimp only at hSw); go_simp; try with_reducible rfl)
            try simp only [Act.put, List.setIfInBounds_toArray, List.set_cons_zero, List.set_cons_succ]
            refine wpAnyM_one (i := 1) (by kernel_rfl) (by simp only [List.getElem?_toArray, List.getElem?_cons_succ, List.getElem?_cons_zero]; rfl) ?_
            go_wp2_with fail
            refine ⟨HSZ.out, ?_⟩
            try simp only [Act.put, List.setIfInBounds_toArray, List.set_cons_zero, List.set_cons_succ]
            obtain ⟨z0, z1, z2⟩ := nd_cells HF0.out.rn
            have zN := fun j => Go.Joins.unfrozen_of_block HF0.out.rn j
            have HDL := Aside0.mk (rnload (nrow3_set (.bool false) (.slice none 0 0) (.slice none 0 0) HF0.out.rn))
            have HOB := Aside0.mk (nonly_set3 (W := v0) (g := N) (.bool false) (.slice none 0 0) (.slice none 0 0))
            have HBF := Aside0.mk ((nonly_set3 (W := v0) (g := N) (.bool false) (.slice none 0 0) (.slice none 0 0)).below HF0.out.bel HF0.out.lo.1 (Nat.le_refl _))
            refine wpAnyM_one (i := 2) (by kernel_rfl) (by simp only [List.getElem?_toArray, List.getElem?_cons_succ, List.getElem?_cons_zero]; rfl) ?_
            go_wp2_with fail
            try simp only [Act.put, List.setIfInBounds_toArray, List.set_cons_zero, List.set_cons_succ]
            refine wpAnyM_one (i := 3) (by kernel_rfl) (by simp only [List.getElem?_toArray, List.getElem?_cons_succ, List.getElem?_cons_zero]; rfl) ?_
            go_wp2_with fail
            try simp only [Act.put, List.setIfInBounds_toArray, List.set_cons_zero, List.set_cons_succ]
            refine wpAnyM_done (by kernel_rfl) ?_ _
            have hD := HDL.out
            go_wp2_with fail
            refine bodyPost_ret (v := .tuple #[.int .i64 0, .agg #[.bool false, .slice none 0 0, .slice none 0 0], .int .i64 71]) (by simp [results, Tryz.results7, asAddr, hD]) rfl ?_
            exact dec_no HE.out (by decide) HBF.out
          case neg =>
            have HQ4 := Aside0.mk q4
            clear q4
            go_cut [44] from 35 to 44 (fun v44 wx => v44 = .bool false ∧ Aside0 (DqH w N Z M (.cells #[.int .i64 (hK xs), .int .i64 (hG xs), .int .i64 (hC xs), .int .i64 (hNx xs)] 62) wx))
            case first =>
              obtain ⟨y0, y1, y2, y3⟩ := item_cells2 H3.out.1.rm
              by_cases q5 : 1 < hG xs
              case pos =>
                have d1 : decide (1 < hG xs) = true := decide_eq_true q5
                have s1 := conv8 H3.out.2
                have s2 := conv8 (HX.out.below H3.out.1.bel)
                have s3 : ((strB (rsealB xs 4)).toList == (strB xs).toList) = true := by rw [strB_list, strB_list, rsealB_eq]; exact beq_iff_eq.2 (Decidable.byContradiction fun h => HQ4.out ⟨q5, h⟩)
                clear q5
                go_wp2_with fail
                go_meet
                exact ⟨rfl, ⟨H3.out.1⟩⟩
              case neg =>
                have d1 : decide (1 < hG xs) = false := decide_eq_false q5
                clear q5
                go_wp2_with fail
                go_meet
                exact ⟨rfl, ⟨H3.out.1⟩⟩
            case rest =>
              obtain ⟨rfl, HE2⟩ := hcut
              clear H3 HC
              have HSL := Aside0.mk (show 1 < hG xs → sealB xs 4 = xs from fun h1 => Decidable.byContradiction fun h => HQ4.out ⟨h1, h⟩)
              have HCP := Aside0.mk (show 256 - cpI (hG xs) = hdI (hG xs) ∧ (hdI (hG xs) = 8 ∨ hdI (hG xs) = 16) ∧ 0 ≤ cpI (hG xs) ∧ cpI (hG xs) ≤ 256 by
                rcases (show hG xs = 1 ∨ hG xs = 2 ∨ hG xs = 3 by have := HGR.out; omega) with h | h | h <;> rw [h] <;> decide)
              have HFP := Aside0.mk (show formP xs = formQ (hK xs) (hG xs) (hC xs) (hNx xs) (xs.drop (hdI (hG xs)).toNat) by
                rw [formQ_eq]
                unfold bodyL
                rw [if_pos ⟨HQ.out, HNL.out⟩])
              have HCT := Aside0.mk (show 0 ≤ hC xs ∧ hC xs ≤ 65535 by
                have h1 := leN_lt ((xs.drop 2).take 2)
                have h2 : ((xs.drop 2).take 2).length ≤ 2 := by rw [List.length_take]; omega
                have h3 := Nat.pow_le_pow_right (show 0 < 256 by omega) h2
                have h4 : hC xs = ((leN ((xs.drop 2).take 2) : Nat) : Int) := rfl
                have h5 : (256 : Nat) ^ 2 = 65536 := by decide
                omega)
              have t1 : wrap64 (256 - cpI (hG xs)) = hdI (hG xs) := by
                have h := HCP.out
                rw [h.1]
                rcases h.2.1 with e | e <;> rw [e] <;> decide +kernel
              have t2 : IntKind.i64.wrap (256 - cpI (hG xs)) = hdI (hG xs) := by
                have h := HCP.out
                rw [h.1]
                rcases h.2.1 with e | e <;> rw [e] <;> decide +kernel
              have p1 : 0 ≤ hdI (hG xs) := by have := HCP.out; omega
              have p2 : hdI (hG xs) ≤ 256 := by have := HCP.out; omega
              have s1 := fun W => sl8_l W A 256 c .i64 (hdI (hG xs)) (by have := HCP.out; omega) (by have := HCP.out; omega)
              have HSS := Aside0.mk (show ∀ X : World, X.heap[M]? = some (.cells #[.int .i64 (hK xs), .int .i64 (hG xs), .int .i64 (hC xs), .int .i64 (hNx xs)] 62) → X.cell? ⟨M, 0, none⟩ = some (.int .i64 (hK xs)) ∧ X.cell? ⟨M, 1, none⟩ = some (.int .i64 (hG xs)) ∧ X.cell? ⟨M, 2, none⟩ = some (.int .i64 (hC xs)) ∧ X.cell? ⟨M, 3, none⟩ = some (.int .i64 (hNx xs)) from fun X h1 => item_cells2 h1)
              go_upto_region 12 with fail
              go_cut [9, 10] from 46 to 56 (fun v9 v10 wx => ∃ (T : Nat) (h : NH) (is : List IH) (ks : List KH) (v : NV) (bb : Bool), v9 = .pointer (some ⟨T, 0, none⟩) ∧ v10 = .bool bb ∧ Aside0 (DqT w N Z M (.cells #[.int .i64 (hK xs), .int .i64 (hG xs), .int .i64 (hC xs), .int .i64 (hNx xs)] 62) T (.cells #[.bool h.leaf, .slice h.I.1 h.I.2.1 h.I.2.2, .slice h.K.1 h.K.2.1 h.K.2.2] 35) wx ∧ Nd wx h is ks v ∧ formP xs = if bb = true then some v else none))
              case first =>
                have h3 := HE2.out.step (below_drew (Below.refl _ wc))
                obtain ⟨v0, hv0⟩ : ∃ X, wc.drew = X := ⟨_, rfl⟩
                rw [hv0] at h3
                have H8 := Aside0.mk h3
                clear h3
                refine wp_region_M (fun j => decide (j < 13)) (fun w' => w'.cell? ⟨M, 0, none⟩ = some (.int .i64 (hK xs)) ∧ w'.cell? ⟨M, 1, none⟩ = some (.int .i64 (hG xs)) ∧ w'.cell? ⟨M, 2, none⟩ = some (.int .i64 (hC xs)) ∧ w'.cell? ⟨M, 3, none⟩ = some (.int .i64 (hNx xs))) (by kernel_rfl) ?_
                rw [hv0]
                clear hv0
                refine wpAnyM_take (i := 0) (v := ?_) (by simp only [List.getElem?_toArray, List.getElem?_cons_succ, List.getElem?_cons_zero]; rfl) (by kernel_rfl) (by kernel_rfl) (by kernel_rfl) (by kernel_rfl) (by exact fun _ _ _ h => h) (Or.inl ⟨by rfl, ?_⟩) (HSS.out _ H8.out.rm) ?_
                rotate_left
                · (intro w' hSw; (try dsimp only at hSw); go_simp; try with_reducible rfl)
                try simp only [Act.put, List.setIfInBounds_toArray, List.set_cons_zero, List.set_cons_succ]
                refine wpAnyM_take (i := 1) (v := ?_) (by simp only [List.getElem?_toArray, List.getElem?_cons_succ, List.getElem?_cons_zero]; rfl) (by kernel_rfl) (by kernel_rfl) (by kernel_rfl) (by kernel_rfl) (by exact fun _ _ _ h => h) (Or.inl ⟨by rfl, ?_⟩) (HSS.out _ H8.out.rm) ?_
                rotate_left
                · (intro w' hSw; (try dsimp only at hSw); go_simp; try with_reducible rfl)
                try simp only [Act.put, List.setIfInBounds_toArray, List.set_cons_zero, List.set_cons_succ]
                refine wpAnyM_take (i := 2) (v := ?_) (by simp only [List.getElem?_toArray, List.getElem?_cons_succ, List.getElem?_cons_zero]; rfl) (by kernel_rfl) (by kernel_rfl) (by kernel_rfl) (by kernel_rfl) (by exact fun _ _ _ h => h) (Or.inl ⟨by rfl, ?_⟩) (HSS.out _ H8.out.rm) ?_
                rotate_left
                · (intro w' hSw; (try dsimp only at hSw); go_simp; try with_reducible rfl)
                try simp only [Act.put, List.setIfInBounds_toArray, List.set_cons_zero, List.set_cons_succ]
                refine wpAnyM_take (i := 3) (v := ?_) (by simp only [List.getElem?_toArray, List.getElem?_cons_succ, List.getElem?_cons_zero]; rfl) (by kernel_rfl) (by kernel_rfl) (by kernel_rfl) (by kernel_rfl) (by exact fun _ _ _ h => h) (Or.inl ⟨by rfl, ?_⟩) (HSS.out _ H8.out.rm) ?_
                rotate_left
                · (intro w' hSw; (try dsimp only at hSw); go_simp; try with_reducible rfl)
                try simp only [Act.put, List.setIfInBounds_toArray, List.set_cons_zero, List.set_cons_succ]
                refine wpAnyM_two (i := 4) (j := 11) (by kernel_rfl) (by simp only [List.getElem?_toArray, List.getElem?_cons_succ, List.getElem?_cons_zero]; rfl) (by simp only [List.getElem?_toArray, List.getElem?_cons_succ, List.getElem?_cons_zero]; rfl) ?g4 ?g11
                case g11 =>
                  go_wp2_with fail
                  have hA := H8.out.new (.cells #[.bool false, .slice none 0 0, .slice none 0 0] 35)
                  obtain ⟨v1, hv1⟩ : ∃ X, v0.alloc (.cells #[.bool false, .slice none 0 0, .slice none 0 0] 35) = X := ⟨_, rfl⟩
                  obtain ⟨T9, hT9⟩ : ∃ X, v0.heap.size = X := ⟨_, rfl⟩
                  rw [hv1, hT9] at hA
                  rw [hv1, hT9]
                  have HA := Aside0.mk hA
                  clear hA hv1 hT9
                  refine ⟨(HSS.out _ HA.out.h.rm), ?_⟩
                  try simp only [Act.put, List.setIfInBounds_toArray, List.set_cons_zero, List.set_cons_succ]
                  refine wpAnyM_one (i := 4) (by kernel_rfl) (by simp only [List.getElem?_toArray, List.getElem?_cons_succ, List.getElem?_cons_zero]; rfl) ?_
                  go_wp2_with (go_at_call 26; refine (rCap_any (hG xs) _).mono ?_; rintro e w9 ⟨rfl, rfl⟩)
                  refine ⟨(HSS.out _ HA.out.h.rm), ?_⟩
                  try simp only [Act.put, List.setIfInBounds_toArray, List.set_cons_zero, List.set_cons_succ]
                  refine wpAnyM_take (i := 5) (v := ?_) (by simp only [List.getElem?_toArray, List.getElem?_cons_succ, List.getElem?_cons_zero]; rfl) (by kernel_rfl) (by kernel_rfl) (by kernel_rfl) (by kernel_rfl) (by exact fun _ _ _ h => h) (Or.inl ⟨by rfl, ?_⟩) (HSS.out _ HA.out.h.rm) ?_
                  rotate_left
                  · (intro w' hSw; (try dsimp only at hSw); go_simp; try with_reducible rfl)
                  try simp only [Act.put, List.setIfInBounds_toArray, List.set_cons_zero, List.set_cons_succ]
                  refine wpAnyM_take (i := 6) (v := ?_) (by simp only [List.getElem?_toArray, List.getElem?_cons_succ, List.getElem?_cons_zero]; rfl) (by kernel_rfl) (by kernel_rfl) (by kernel_rfl) (by kernel_rfl) (by exact fun _ _ _ h => h) (Or.inl ⟨by rfl, ?_⟩) (HSS.out _ HA.out.h.rm) ?_
                  rotate_left
                  · (intro w' hSw; (try dsimp only at hSw); go_simp; try with_reducible rfl)
                  try simp only [Act.put, List.setIfInBounds_toArray, List.set_cons_zero, List.set_cons_succ]
                  refine wpAnyM_one (i := 7) (by kernel_rfl) (by simp only [List.getElem?_toArray, List.getElem?_cons_succ, List.getElem?_cons_zero]; rfl) ?_
                  go_wp2_with (go_at_call 25; refine (form_any (hK xs) (hG xs) (hC xs) (hNx xs) _ _ _ (xs.drop (hdI (hG xs)).toNat) v1 ((HX.out.below HA.out.h.bel).drop (hdI (hG xs)).toNat (by have := HCP.out; omega)) (by omega) HGR.out HCT.out).mono ?_; intro e v2 hF; unfold FormPost at hF; obtain ⟨⟨lf, ⟨IA, In, Ic⟩, ⟨KA, Kn, Kc⟩⟩, is, ks, vv, bb, rfl, hN, hB, hf⟩ := hF; (have HF := Aside0.mk (And.intro (HA.out.step hB) (And.intro hN hf))); clear hN hB hf; simp only)
                  refine ⟨(HSS.out _ HF.out.1.h.rm), ?_⟩
                  try simp only [Act.put, List.setIfInBounds_toArray, List.set_cons_zero, List.set_cons_succ]
                  refine wpAnyM_take (i := 8) (v := ?_) (by simp only [List.getElem?_toArray, List.getElem?_cons_succ, List.getElem?_cons_zero]; rfl) (by kernel_rfl) (by kernel_rfl) (by kernel_rfl) (by kernel_rfl) (by exact fun _ _ _ h => h) (Or.inl ⟨by rfl, ?_⟩) (HSS.out _ HF.out.1.h.rm) ?_
                  rotate_left
                  · (intro w' hSw; (try dsimp only at hSw); go_simp; try with_reducible rfl)
                  try simp only [Act.put, List.setIfInBounds_toArray, List.set_cons_zero, List.set_cons_succ]
                  refine wpAnyM_take (i := 9) (v := ?_) (by simp only [List.getElem?_toArray, List.getElem?_cons_succ, List.getElem?_cons_zero]; rfl) (by kernel_rfl) (by kernel_rfl) (by kernel_rfl) (by kernel_rfl) (by exact fun _ _ _ h => h) (Or.inl ⟨by rfl, ?_⟩) (HSS.out _ HF.out.1.h.rm) ?_
                  rotate_left
                  · (intro w' hSw; (try dsimp only at hSw); go_simp; try with_reducible rfl)
                  try simp only [Act.put, List.setIfInBounds_toArray, List.set_cons_zero, List.set_cons_succ]
                  refine wpAnyM_take (i := 10) (v := ?_) (by simp only [List.getElem?_toArray, List.getElem?_cons_succ, List.getElem?_cons_zero]; rfl) (by kernel_rfl) (by kernel_rfl) (by kernel_rfl) (by kernel_rfl) (by exact fun _ _ _ h => h) (Or.inl ⟨by rfl, ?_⟩) (HSS.out _ HF.out.1.h.rm) ?_
                  rotate_left
                  · (intro w' hSw; (try dsimp only at hSw); go_simp; try with_reducible rfl)
                  try simp only [Act.put, List.setIfInBounds_toArray, List.set_cons_zero, List.set_cons_succ]
                  have HT := Aside0.mk HF.out.1
                  have HN9 := Aside0.mk HF.out.2.1
                  refine wpAnyM_one (i := 12) (by kernel_rfl) (by simp only [List.getElem?_toArray, List.getElem?_cons_succ, List.getElem?_cons_zero]; rfl) ?_
                  obtain ⟨z0, z1, z2⟩ := nd_cells HT.out.rt
                  have zN := fun j => Go.Joins.unfrozen_of_block HT.out.rt j
                  go_wp2_with fail
                  refine ⟨(by have h := HSS.out _ (HT.out.put (.bool lf) (.slice IA In Ic) (.slice KA Kn Kc)).h.rm; simpa [go_sem] using h), ?_⟩
                  try simp only [Act.put, List.setIfInBounds_toArray, List.set_cons_zero, List.set_cons_succ]
                  refine wpAnyM_one (i := 13) (by kernel_rfl) (by simp only [List.getElem?_toArray, List.getElem?_cons_succ, List.getElem?_cons_zero]; rfl) ?_
                  go_wp2_with fail
                  try simp only [Act.put, List.setIfInBounds_toArray, List.set_cons_zero, List.set_cons_succ]
                  refine wpAnyM_done (by kernel_rfl) ?_ _
                  go_wp2_with fail
                  go_meet
                  exact ⟨T9, ⟨lf, (IA, In, Ic), (KA, Kn, Kc)⟩, is, ks, vv, bb, rfl, rfl, ⟨HT.out.put _ _ _, HN9.out.only9 HT.out.rt (nonly_set3 _ _ _), HFP.out.trans HF.out.2.2⟩⟩
                case g4 =>
                  go_wp2_with (go_at_call 26; refine (rCap_any (hG xs) _).mono ?_; rintro e w9 ⟨rfl, rfl⟩)
                  refine ⟨(HSS.out _ H8.out.rm), ?_⟩
                  try simp only [Act.put, List.setIfInBounds_toArray, List.set_cons_zero, List.set_cons_succ]
                  refine wpAnyM_take (i := 5) (v := ?_) (by simp only [List.getElem?_toArray, List.getElem?_cons_succ, List.getElem?_cons_zero]; rfl) (by kernel_rfl) (by kernel_rfl) (by kernel_rfl) (by kernel_rfl) (by exact fun _ _ _ h => h) (Or.inl ⟨by rfl, ?_⟩) (HSS.out _ H8.out.rm) ?_
                  rotate_left
                  · (intro w' hSw; (try dsimp only at hSw); go_simp; try with_reducible rfl)
                  try simp only [Act.put, List.setIfInBounds_toArray, List.set_cons_zero, List.set_cons_succ]
                  refine wpAnyM_take (i := 6) (v := ?_) (by simp only [List.getElem?_toArray, List.getElem?_cons_succ, List.getElem?_cons_zero]; rfl) (by kernel_rfl) (by kernel_rfl) (by kernel_rfl) (by kernel_rfl) (by exact fun _ _ _ h => h) (Or.inl ⟨by rfl, ?_⟩) (HSS.out _ H8.out.rm) ?_
                  rotate_left
                  · (intro w' hSw; (try dsimp only at hSw); go_simp; try with_reducible rfl)
                  try simp only [Act.put, List.setIfInBounds_toArray, List.set_cons_zero, List.set_cons_succ]
                  refine wpAnyM_two (i := 7) (j := 11) (by kernel_rfl) (by simp only [List.getElem?_toArray, List.getElem?_cons_succ, List.getElem?_cons_zero]; rfl) (by simp only [List.getElem?_toArray, List.getElem?_cons_succ, List.getElem?_cons_zero]; rfl) ?g7 ?g11
                  case g11 =>
                    go_wp2_with fail
                    have hA := H8.out.new (.cells #[.bool false, .slice none 0 0, .slice none 0 0] 35)
                    obtain ⟨v1, hv1⟩ : ∃ X, v0.alloc (.cells #[.bool false, .slice none 0 0, .slice none 0 0] 35) = X := ⟨_, rfl⟩
                    obtain ⟨T9, hT9⟩ : ∃ X, v0.heap.size = X := ⟨_, rfl⟩
                    rw [hv1, hT9] at hA
                    rw [hv1, hT9]
                    have HA := Aside0.mk hA
                    clear hA hv1 hT9
                    refine ⟨(HSS.out _ HA.out.h.rm), ?_⟩
                    try simp only [Act.put, List.setIfInBounds_toArray, List.set_cons_zero, List.set_cons_succ]
                    refine wpAnyM_one (i := 7) (by kernel_rfl) (by simp only [List.getElem?_toArray, List.getElem?_cons_succ, List.getElem?_cons_zero]; rfl) ?_
                    go_wp2_with (go_at_call 25; refine (form_any (hK xs) (hG xs) (hC xs) (hNx xs) _ _ _ (xs.drop (hdI (hG xs)).toNat) v1 ((HX.out.below HA.out.h.bel).drop (hdI (hG xs)).toNat (by have := HCP.out; omega)) (by omega) HGR.out HCT.out).mono ?_; intro e v2 hF; unfold FormPost at hF; obtain ⟨⟨lf, ⟨IA, In, Ic⟩, ⟨KA, Kn, Kc⟩⟩, is, ks, vv, bb, rfl, hN, hB, hf⟩ := hF; (have HF := Aside0.mk (And.intro (HA.out.step hB) (And.intro hN hf))); clear hN hB hf; simp only)
                    refine ⟨(HSS.out _ HF.out.1.h.rm), ?_⟩
                    try simp only [Act.put, List.setIfInBounds_toArray, List.set_cons_zero, List.set_cons_succ]
                    refine wpAnyM_take (i := 8) (v := ?_) (by simp only [List.getElem?_toArray, List.getElem?_cons_succ, List.getElem?_cons_zero]; rfl) (by kernel_rfl) (by kernel_rfl) (by kernel_rfl) (by kernel_rfl) (by exact fun _ _ _ h => h) (Or.inl ⟨by rfl, ?_⟩) (HSS.out _ HF.out.1.h.rm) ?_
                    rotate_left
                    · (intro w' hSw; (try dsimp only at hSw); go_simp; try with_reducible rfl)
                    try simp only [Act.put, List.setIfInBounds_toArray, List.set_cons_zero, List.set_cons_succ]
                    refine wpAnyM_take (i := 9) (v := ?_) (by simp only [List.getElem?_toArray, List.getElem?_cons_succ, List.getElem?_cons_zero]; rfl) (by kernel_rfl) (by kernel_rfl) (by kernel_rfl) (by kernel_rfl) (by exact fun _ _ _ h => h) (Or.inl ⟨by rfl, ?_⟩) (HSS.out _ HF.out.1.h.rm) ?_
                    rotate_left
                    · (intro w' hSw; (try dsimp only at hSw); go_simp; try with_reducible rfl)
                    try simp only [Act.put, List.setIfInBounds_toArray, List.set_cons_zero, List.set_cons_succ]
                    refine wpAnyM_take (i := 10) (v := ?_) (by simp only [List.getElem?_toArray, List.getElem?_cons_succ, List.getElem?_cons_zero]; rfl) (by kernel_rfl) (by kernel_rfl) (by kernel_rfl) (by kernel_rfl) (by exact fun _ _ _ h => h) (Or.inl ⟨by rfl, ?_⟩) (HSS.out _ HF.out.1.h.rm) ?_
                    rotate_left
                    · (intro w' hSw; (try dsimp only at hSw); go_simp; try with_reducible rfl)
                    try simp only [Act.put, List.setIfInBounds_toArray, List.set_cons_zero, List.set_cons_succ]
                    have HT := Aside0.mk HF.out.1
                    have HN9 := Aside0.mk HF.out.2.1
                    refine wpAnyM_one (i := 12) (by kernel_rfl) (by simp only [List.getElem?_toArray, List.getElem?_cons_succ, List.getElem?_cons_zero]; rfl) ?_
                    obtain ⟨z0, z1, z2⟩ := nd_cells HT.out.rt
                    have zN := fun j => Go.Joins.unfrozen_of_block HT.out.rt j
                    go_wp2_with fail
                    refine ⟨(by have h := HSS.out _ (HT.out.put (.bool lf) (.slice IA In Ic) (.slice KA Kn Kc)).h.rm; simpa [go_sem] using h), ?_⟩
                    try simp only [Act.put, List.setIfInBounds_toArray, List.set_cons_zero, List.set_cons_succ]
                    refine wpAnyM_one (i := 13) (by kernel_rfl) (by simp only [List.getElem?_toArray, List.getElem?_cons_succ, List.getElem?_cons_zero]; rfl) ?_
                    go_wp2_with fail
                    try simp only [Act.put, List.setIfInBounds_toArray, List.set_cons_zero, List.set_cons_succ]
                    refine wpAnyM_done (by kernel_rfl) ?_ _
                    go_wp2_with fail
                    go_meet
                    exact ⟨T9, ⟨lf, (IA, In, Ic), (KA, Kn, Kc)⟩, is, ks, vv, bb, rfl, rfl, ⟨HT.out.put _ _ _, HN9.out.only9 HT.out.rt (nonly_set3 _ _ _), HFP.out.trans HF.out.2.2⟩⟩
                  case g7 =>
                    go_wp2_with (go_at_call 25; refine (form_any (hK xs) (hG xs) (hC xs) (hNx xs) _ _ _ (xs.drop (hdI (hG xs)).toNat) v0 ((HX.out.below H8.out.bel).drop (hdI (hG xs)).toNat (by have := HCP.out; omega)) (by omega) HGR.out HCT.out).mono ?_; intro e v1 hF; unfold FormPost at hF; obtain ⟨⟨lf, ⟨IA, In, Ic⟩, ⟨KA, Kn, Kc⟩⟩, is, ks, vv, bb, rfl, hN, hB, hf⟩ := hF; (have HF := Aside0.mk (And.intro (H8.out.step hB) (And.intro hN hf))); clear hN hB hf; simp only)
                    refine ⟨(HSS.out _ HF.out.1.rm), ?_⟩
                    try simp only [Act.put, List.setIfInBounds_toArray, List.set_cons_zero, List.set_cons_succ]
                    refine wpAnyM_take (i := 8) (v := ?_) (by simp only [List.getElem?_toArray, List.getElem?_cons_succ, List.getElem?_cons_zero]; rfl) (by kernel_rfl) (by kernel_rfl) (by kernel_rfl) (by kernel_rfl) (by exact fun _ _ _ h => h) (Or.inl ⟨by rfl, ?_⟩) (HSS.out _ HF.out.1.rm) ?_
                    rotate_left
                    · (intro w' hSw; (try dsimp only at hSw); go_simp; try with_reducible rfl)
                    try simp only [Act.put, List.setIfInBounds_toArray, List.set_cons_zero, List.set_cons_succ]
                    refine wpAnyM_take (i := 9) (v := ?_) (by simp only [List.getElem?_toArray, List.getElem?_cons_succ, List.getElem?_cons_zero]; rfl) (by kernel_rfl) (by kernel_rfl) (by kernel_rfl) (by kernel_rfl) (by exact fun _ _ _ h => h) (Or.inl ⟨by rfl, ?_⟩) (HSS.out _ HF.out.1.rm) ?_
                    rotate_left
                    · (intro w' hSw; (try dsimp only at hSw); go_simp; try with_reducible rfl)
                    try simp only [Act.put, List.setIfInBounds_toArray, List.set_cons_zero, List.set_cons_succ]
                    refine wpAnyM_take (i := 10) (v := ?_) (by simp only [List.getElem?_toArray, List.getElem?_cons_succ, List.getElem?_cons_zero]; rfl) (by kernel_rfl) (by kernel_rfl) (by kernel_rfl) (by kernel_rfl) (by exact fun _ _ _ h => h) (Or.inl ⟨by rfl, ?_⟩) (HSS.out _ HF.out.1.rm) ?_
                    rotate_left
                    · (intro w' hSw; (try dsimp only at hSw); go_simp; try with_reducible rfl)
                    try simp only [Act.put, List.setIfInBounds_toArray, List.set_cons_zero, List.set_cons_succ]
                    refine wpAnyM_one (i := 11) (by kernel_rfl) (by simp only [List.getElem?_toArray, List.getElem?_cons_succ, List.getElem?_cons_zero]; rfl) ?_
                    go_wp2_with fail
                    have hA := HF.out.1.new (.cells #[.bool false, .slice none 0 0, .slice none 0 0] 35)
                    obtain ⟨v2, hv2⟩ : ∃ X, v1.alloc (.cells #[.bool false, .slice none 0 0, .slice none 0 0] 35) = X := ⟨_, rfl⟩
                    obtain ⟨T9, hT9⟩ : ∃ X, v1.heap.size = X := ⟨_, rfl⟩
                    rw [hv2, hT9] at hA
                    have hN9 := HF.out.2.1.below ((Below.refl _ v1).alloc (Nat.le_refl _) (.cells #[.bool false, .slice none 0 0, .slice none 0 0] 35))
                    rw [hv2] at hN9
                    have HN9 := Aside0.mk hN9
                    clear hN9
                    rw [hv2, hT9]
                    have HA := Aside0.mk hA
                    clear hA hv2 hT9
                    refine ⟨(HSS.out _ HA.out.h.rm), ?_⟩
                    try simp only [Act.put, List.setIfInBounds_toArray, List.set_cons_zero, List.set_cons_succ]
                    have HT := Aside0.mk HA.out
                    refine wpAnyM_one (i := 12) (by kernel_rfl) (by simp only [List.getElem?_toArray, List.getElem?_cons_succ, List.getElem?_cons_zero]; rfl) ?_
                    obtain ⟨z0, z1, z2⟩ := nd_cells HT.out.rt
                    have zN := fun j => Go.Joins.unfrozen_of_block HT.out.rt j
                    go_wp2_with fail
                    refine ⟨(by have h := HSS.out _ (HT.out.put (.bool lf) (.slice IA In Ic) (.slice KA Kn Kc)).h.rm; simpa [go_sem] using h), ?_⟩
                    try simp only [Act.put, List.setIfInBounds_toArray, List.set_cons_zero, List.set_cons_succ]
                    refine wpAnyM_one (i := 13) (by kernel_rfl) (by simp only [List.getElem?_toArray, List.getElem?_cons_succ, List.getElem?_cons_zero]; rfl) ?_
                    go_wp2_with fail
                    try simp only [Act.put, List.setIfInBounds_toArray, List.set_cons_zero, List.set_cons_succ]
                    refine wpAnyM_done (by kernel_rfl) ?_ _
                    go_wp2_with fail
                    go_meet
                    exact ⟨T9, ⟨lf, (IA, In, Ic), (KA, Kn, Kc)⟩, is, ks, vv, bb, rfl, rfl, ⟨HT.out.put _ _ _, HN9.out.only9 HT.out.rt (nonly_set3 _ _ _), HFP.out.trans HF.out.2.2⟩⟩
              case rest =>
                obtain ⟨T, ⟨lf, ⟨IA, In, Ic⟩, ⟨KA, Kn, Kc⟩⟩, is, ks, vv, bb, rfl, rfl, HR⟩ := hcut
                try simp only
                clear t1 t2 p1 p2 s1
                cases bb with
                | false =>
                  have HE := Aside0.mk (form_none HNL.out HQ.out HK.out HSL.out HR.out.2.2)
                  go_upto_region 14 with fail
                  have h3 := HR.out.1.h.step (below_drew (Below.refl _ wc))
                  obtain ⟨v0, hv0⟩ : ∃ X, wc.drew = X := ⟨_, rfl⟩
                  rw [hv0] at h3
                  have HF0 := Aside0.mk h3
                  clear h3
                  have HSZ := Aside0.mk (nd_cells HF0.out.rz)
                  refine wp_region_M (fun j => decide (j < 2)) (fun w' => w'.cell? ⟨Z, 0, none⟩ = some (.bool false) ∧ w'.cell? ⟨Z, 1, none⟩ = some (.slice none 0 0) ∧ w'.cell? ⟨Z, 2, none⟩ = some (.slice none 0 0)) (by kernel_rfl) ?_
                  rw [hv0]
                  clear hv0
                  refine wpAnyM_take (i := 0) (v := ?_) (by simp only [List.getElem?_toArray, List.getElem?_cons_succ, List.getElem?_cons_zero]; rfl) (by kernel_rfl) (by kernel_rfl) (by kernel_rfl) (by kernel_rfl) (by exact fun _ _ _ h => h) (Or.inl ⟨by rfl, ?_⟩) HSZ.out ?_
                  rotate_left
                  · (intro w' hSw; (try dsimp only at hSw); go_simp; try with_reducible rfl)
                  try simp only [Act.put, List.setIfInBounds_toArray, List.set_cons_zero, List.set_cons_succ]
                  refine wpAnyM_one (i := 1) (by kernel_rfl) (by simp only [List.getElem?_toArray, List.getElem?_cons_succ, List.getElem?_cons_zero]; rfl) ?_
                  go_wp2_with fail
                  refine ⟨HSZ.out, ?_⟩
                  try simp only [Act.put, List.setIfInBounds_toArray, List.set_cons_zero, List.set_cons_succ]
                  obtain ⟨z0, z1, z2⟩ := nd_cells HF0.out.rn
                  have zN := fun j => Go.Joins.unfrozen_of_block HF0.out.rn j
                  have HDL := Aside0.mk (rnload (nrow3_set (.bool false) (.slice none 0 0) (.slice none 0 0) HF0.out.rn))
                  have HOB := Aside0.mk (nonly_set3 (W := v0) (g := N) (.bool false) (.slice none 0 0) (.slice none 0 0))
                  have HBF := Aside0.mk ((nonly_set3 (W := v0) (g := N) (.bool false) (.slice none 0 0) (.slice none 0 0)).below HF0.out.bel HF0.out.lo.1 (Nat.le_refl _))
                  refine wpAnyM_one (i := 2) (by kernel_rfl) (by simp only [List.getElem?_toArray, List.getElem?_cons_succ, List.getElem?_cons_zero]; rfl) ?_
                  go_wp2_with fail
                  try simp only [Act.put, List.setIfInBounds_toArray, List.set_cons_zero, List.set_cons_succ]
                  refine wpAnyM_one (i := 3) (by kernel_rfl) (by simp only [List.getElem?_toArray, List.getElem?_cons_succ, List.getElem?_cons_zero]; rfl) ?_
                  go_wp2_with fail
                  try simp only [Act.put, List.setIfInBounds_toArray, List.set_cons_zero, List.set_cons_succ]
                  refine wpAnyM_done (by kernel_rfl) ?_ _
                  have hD := HDL.out
                  go_wp2_with fail
                  refine bodyPost_ret (v := .tuple #[.int .i64 0, .agg #[.bool false, .slice none 0 0, .slice none 0 0], .int .i64 72]) (by simp [results, Tryz.results7, asAddr, hD]) rfl ?_
                  exact dec_no HE.out (by decide) HBF.out
                | true =>
                  have HE := Aside0.mk (form_some HNL.out HQ.out HK.out HSL.out HR.out.2.2)
                  go_upto_region 15 with fail
                  have h3 := HR.out.1.step (below_drew (Below.refl _ wc))
                  have h4 := HR.out.2.1.below (below_drew (Below.refl _ wc))
                  obtain ⟨v0, hv0⟩ : ∃ X, wc.drew = X := ⟨_, rfl⟩
                  rw [hv0] at h3 h4
                  have H8 := Aside0.mk (And.intro h3 h4)
                  clear h3 h4
                  have HS2 := Aside0.mk (show v0.cell? ⟨M, 1, none⟩ = some (.int .i64 (hG xs)) ∧ v0.cell? ⟨T, 0, none⟩ = some (.bool lf) ∧ v0.cell? ⟨T, 1, none⟩ = some (.slice IA In Ic) ∧ v0.cell? ⟨T, 2, none⟩ = some (.slice KA Kn Kc) from ⟨(item_cells2 H8.out.1.h.rm).2.1, nd_cells H8.out.1.rt⟩)
                  refine wp_region_M (fun j => decide (j < 4)) (fun w' => w'.cell? ⟨M, 1, none⟩ = some (.int .i64 (hG xs)) ∧ w'.cell? ⟨T, 0, none⟩ = some (.bool lf) ∧ w'.cell? ⟨T, 1, none⟩ = some (.slice IA In Ic) ∧ w'.cell? ⟨T, 2, none⟩ = some (.slice KA Kn Kc)) (by kernel_rfl) ?_
                  rw [hv0]
                  clear hv0
                  refine wpAnyM_take (i := 0) (v := ?_) (by simp only [List.getElem?_toArray, List.getElem?_cons_succ, List.getElem?_cons_zero]; rfl) (by kernel_rfl) (by kernel_rfl) (by kernel_rfl) (by kernel_rfl) (by exact fun _ _ _ h => h) (Or.inl ⟨by rfl, ?_⟩) HS2.out ?_
                  rotate_left
                  · (intro w' hSw; (try dsimp only at hSw); go_simp; try with_reducible rfl)
                  try simp only [Act.put, List.setIfInBounds_toArray, List.set_cons_zero, List.set_cons_succ]
                  refine wpAnyM_take (i := 1) (v := ?_) (by simp only [List.getElem?_toArray, List.getElem?_cons_succ, List.getElem?_cons_zero]; rfl) (by kernel_rfl) (by kernel_rfl) (by kernel_rfl) (by kernel_rfl) (by exact fun _ _ _ h => h) (Or.inl ⟨by rfl, ?_⟩) HS2.out ?_
                  rotate_left
                  · (intro w' hSw; (try dsimp only at hSw); go_simp; try with_reducible rfl)
                  try simp only [Act.put, List.setIfInBounds_toArray, List.set_cons_zero, List.set_cons_succ]
                  refine wpAnyM_take (i := 2) (v := ?_) (by simp only [List.getElem?_toArray, List.getElem?_cons_succ, List.getElem?_cons_zero]; rfl) (by kernel_rfl) (by kernel_rfl) (by kernel_rfl) (by kernel_rfl) (by exact fun _ _ _ h => h) (Or.inl ⟨by rfl, ?_⟩) HS2.out ?_
                  rotate_left
                  · (intro w' hSw; (try dsimp only at hSw); go_simp; try with_reducible rfl)
                  try simp only [Act.put, List.setIfInBounds_toArray, List.set_cons_zero, List.set_cons_succ]
                  refine wpAnyM_one (i := 3) (by kernel_rfl) (by simp only [List.getElem?_toArray, List.getElem?_cons_succ, List.getElem?_cons_zero]; rfl) ?_
                  go_wp2_with fail
                  refine ⟨HS2.out, ?_⟩
                  try simp only [Act.put, List.setIfInBounds_toArray, List.set_cons_zero, List.set_cons_succ]
                  obtain ⟨z0, z1, z2⟩ := nd_cells H8.out.1.h.rn
                  have zN := fun j => Go.Joins.unfrozen_of_block H8.out.1.h.rn j
                  have HDL := Aside0.mk (rnload (nrow3_set (.bool lf) (.slice IA In Ic) (.slice KA Kn Kc) H8.out.1.h.rn))
                  have HOB := Aside0.mk (nonly_set3 (W := v0) (g := N) (.bool lf) (.slice IA In Ic) (.slice KA Kn Kc))
                  refine wpAnyM_one (i := 4) (by kernel_rfl) (by simp only [List.getElem?_toArray, List.getElem?_cons_succ, List.getElem?_cons_zero]; rfl) ?_
                  go_wp2_with fail
                  try simp only [Act.put, List.setIfInBounds_toArray, List.set_cons_zero, List.set_cons_succ]
                  refine wpAnyM_one (i := 5) (by kernel_rfl) (by simp only [List.getElem?_toArray, List.getElem?_cons_succ, List.getElem?_cons_zero]; rfl) ?_
                  go_wp2_with fail
                  try simp only [Act.put, List.setIfInBounds_toArray, List.set_cons_zero, List.set_cons_succ]
                  refine wpAnyM_done (by kernel_rfl) ?_ _
                  have hD := HDL.out
                  go_wp2_with fail
                  refine bodyPost_ret (v := .tuple #[.int .i64 (hG xs), .agg #[.bool lf, .slice IA In Ic, .slice KA Kn Kc], .int .i64 0]) (by simp [results, Tryz.results7, asAddr, hD]) rfl ?_
                  refine ⟨⟨lf, (IA, In, Ic), (KA, Kn, Kc)⟩, is, ks, ?_, ?_, HOB.out.below H8.out.1.h.bel H8.out.1.h.lo.1 (Nat.le_refl _)⟩
                  · rw [HE.out.1, HE.out.2.1]
                    rfl
                  · rw [HE.out.2.2]
                    exact H8.out.2.only9 H8.out.1.h.rn HOB.out
end Go.Proofs.YtbjfklgmbeaaoaaGreat
