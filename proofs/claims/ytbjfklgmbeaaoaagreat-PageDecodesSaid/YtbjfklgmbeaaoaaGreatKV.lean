/- The walk of ref07's form. -/
import Derived.Test.YtbjfklgmbeaaoaaGreatKU
set_option linter.unusedVariables false
set_option linter.unusedSimpArgs false
namespace Go.Proofs.YtbjfklgmbeaaoaaGreat
open Go.RowKit

/-- The node of a body, under such a head. -/
def formQ (k g ct nx : Int) (X : List UInt8) : Option NV :=
  if k = 76 then match pI X g ct.toNat with
    | none => none
    | some t => if zerosB X t.2 = true ∧ t.1.any lacksB = false ∧ nx = 0 ∧ rightN g ⟨true, t.1, []⟩ = true then some ⟨true, t.1, []⟩ else none
  else match pK X g ct.toNat with
    | none => none
    | some t => if zerosB X t.2 = true ∧ nx = 0 ∧ rightN g ⟨false, [], t.1⟩ = true then some ⟨false, [], t.1⟩ else none
theorem formQ_eq (xs : List UInt8) : formP xs = formQ (hK xs) (hG xs) (hC xs) (hNx xs) (bodyL xs) := rfl
theorem pI_stop {X : List UInt8} {g : Int} {k : Nat} (h : pI X g k = none) : ∀ m, pI X g (k + m) = none
  | 0 => h
  | m + 1 => by
    show (match pI X g (k + m) with | none => none | some t => _) = none
    rw [pI_stop h m]
theorem pK_stop {X : List UInt8} {g : Int} {k : Nat} (h : pK X g k = none) : ∀ m, pK X g (k + m) = none
  | 0 => h
  | m + 1 => by
    show (match pK X g (k + m) with | none => none | some t => _) = none
    rw [pK_stop h m]
theorem pI_none {X : List UInt8} {g : Int} {j : Nat} {t : List IV × Nat} (h : pI X g j = some t) (h1 : oneI X g t.2 = none) : pI X g (j + 1) = none := by
  show (match pI X g j with | none => none | some t => _) = none
  rw [h]
  simp only [h1]
theorem pI_some {X : List UInt8} {g : Int} {j : Nat} {t : List IV × Nat} {r : IV × Nat} (h : pI X g j = some t) (h1 : oneI X g t.2 = some r) : pI X g (j + 1) = some (t.1 ++ [r.1], r.2) := by
  show (match pI X g j with | none => none | some t => _) = _
  rw [h]
  simp only [h1]
theorem pK_none {X : List UInt8} {g : Int} {j : Nat} {t : List KV × Nat} (h : pK X g j = some t) (h1 : oneK X g t.2 = none) : pK X g (j + 1) = none := by
  show (match pK X g j with | none => none | some t => _) = none
  rw [h]
  simp only [h1]
theorem pK_some {X : List UInt8} {g : Int} {j : Nat} {t : List KV × Nat} {r : KV × Nat} (h : pK X g j = some t) (h1 : oneK X g t.2 = some r) : pK X g (j + 1) = some (t.1 ++ [r.1], r.2) := by
  show (match pK X g j with | none => none | some t => _) = _
  rw [h]
  simp only [h1]
theorem oneI_end {X : List UInt8} {g : Int} {a : Nat} {r : IV × Nat} (h : oneI X g a = some r) : a + 1 ≤ r.2 ∧ r.2 ≤ X.length := by
  unfold oneI at h
  split at h
  · split at h
    · split at h
      · injection h with h; subst h; exact ⟨by simp only; omega, by assumption⟩
      · cases h
    · split at h
      · rename_i h3; injection h with h; subst h; exact ⟨by simp only; omega, h3.2.1⟩
      · cases h
  · cases h
theorem oneK_end {X : List UInt8} {g : Int} {a : Nat} {r : KV × Nat} (h : oneK X g a = some r) : a + 1 ≤ r.2 ∧ r.2 ≤ X.length := by
  unfold oneK at h
  split at h
  · rename_i h3; injection h with h; subst h; exact ⟨by simp only; omega, h3.2⟩
  · cases h
theorem zeros_of {X : List UInt8} {a : Nat} (h : ∀ q, a ≤ q → q < X.length → bN X q = 0) : zerosB X a = true := by
  unfold zerosB
  rw [List.all_eq_true]
  intro x hx
  obtain ⟨i, hi⟩ := List.getElem?_of_mem hx
  rw [List.getElem?_drop] at hi
  have hl := (List.getElem?_eq_some_iff.1 hi).1
  have h1 := h (a + i) (by omega) hl
  unfold bN at h1
  rw [List.getD_eq_getElem?_getD, hi] at h1
  have : x = 0 := UInt8.toNat_inj.1 h1
  rw [this]
  rfl
theorem zeros_not {X : List UInt8} {a q : Nat} (h1 : a ≤ q) (h2 : q < X.length) (h3 : bN X q ≠ 0) : zerosB X a = false := by
  cases hz : zerosB X a with
  | false => rfl
  | true =>
    refine absurd ?_ h3
    have hm := List.all_eq_true.1 hz X[q] (by
      rw [List.mem_iff_getElem?]
      exact ⟨q - a, by rw [List.getElem?_drop, show a + (q - a) = q by omega]; exact List.getElem?_eq_getElem h2⟩)
    have : X[q] = 0 := by simpa using hm
    unfold bN
    rw [List.getD_eq_getElem?_getD, List.getElem?_eq_getElem h2]
    show X[q].toNat = 0
    rw [this]
    rfl
theorem its_snoc {W : World} {is : List IH} {l : List IV} {p : IH} {q : IV} (h : Its W is l) (h1 : Bsh W p.k q.k) (h2 : Bsh W p.v q.v) (h3 : p.s = q.s) (h4 : p.r = q.r) : Its W (is ++ [p]) (l ++ [q]) := by
  refine ⟨by rw [List.length_append, List.length_append, h.len]; rfl, fun j z hj => ?_⟩
  rcases Nat.lt_or_ge j is.length with hl | hl
  · rw [List.getElem?_append_left hl] at hj
    rw [List.getElem?_append_left (by rw [← h.len]; exact hl)]
    exact h.each j z hj
  · rw [List.getElem?_append_right hl] at hj
    rw [List.getElem?_append_right (by rw [← h.len]; exact hl), ← h.len]
    have hz : j - is.length = 0 := by
      rcases Nat.eq_zero_or_pos (j - is.length) with h0 | h0
      · exact h0
      · rw [List.getElem?_eq_none (by simp; omega)] at hj; cases hj
    rw [hz] at hj ⊢
    injection hj with hj
    subst hj
    exact ⟨q, rfl, h1, h2, h3, h4⟩
theorem kds_snoc {W : World} {ks : List KH} {l : List KV} {p : KH} {q : KV} (h : Kds W ks l) (h1 : Bsh W p.k q.k) (h4 : p.r = q.r) : Kds W (ks ++ [p]) (l ++ [q]) := by
  refine ⟨by rw [List.length_append, List.length_append, h.len]; rfl, fun j z hj => ?_⟩
  rcases Nat.lt_or_ge j ks.length with hl | hl
  · rw [List.getElem?_append_left hl] at hj
    rw [List.getElem?_append_left (by rw [← h.len]; exact hl)]
    exact h.each j z hj
  · rw [List.getElem?_append_right hl] at hj
    rw [List.getElem?_append_right (by rw [← h.len]; exact hl), ← h.len]
    have hz : j - ks.length = 0 := by
      rcases Nat.eq_zero_or_pos (j - ks.length) with h0 | h0
      · exact h0
      · rw [List.getElem?_eq_none (by simp; omega)] at hj; cases hj
    rw [hz] at hj ⊢
    injection hj with hj
    subst hj
    exact ⟨q, rfl, h1, h4⟩
theorem its_nil (W : World) : Its W [] [] := ⟨rfl, fun j p h => by simp at h⟩
theorem kds_nil (W : World) : Kds W [] [] := ⟨rfl, fun j p h => by simp at h⟩
theorem OfS.nd {w W W1 : World} {TN : TypeId} {N T2 T3 : Nat} {oN oT : Obj} {lf : Bool} {I K : SH} {is : List IH} {ks : List KH} {l : List IV} {kl : List KV} (k : OfS w TN 70 72 N T2 T3 oN oT lf I K is ks W) (ho : OnlyB T2 W W1) (hI : Its w is l) (hK : Kds w ks kl) (h1 : I.2.1 ≤ 1000) (h2 : K.2.1 ≤ 1000) :
    Nd W1 ⟨lf, I, K⟩ is ks ⟨lf, l, kl⟩ ∧ Below w.heap.size w W1 := by
  have hB := ho.below k.bel (by have := k.lo; omega) (Nat.le_refl _)
  have a := k.oi.len
  have b := k.ok.len
  rw [ihv_len] at a
  rw [khv_len] at b
  exact ⟨⟨rfl, (k.oi.only ho (fun q e => (k.ni q e).2.1)).rc, (k.ok.only ho (fun q e => (k.nk q e).2.1)).rc, by show is.length = I.2.1; omega, by show ks.length = K.2.1; omega, hI.below hB, hK.below hB, h1, h2⟩, hB⟩
def FormPost (w : World) (k g ct nx : Int) (X : List UInt8) (e : Ending) (w' : World) : Prop := ∃ (h : NH) (is : List IH) (ks : List KH) (v : NV) (bb : Bool), e = .returned (.tuple #[.agg #[.bool h.leaf, .slice h.I.1 h.I.2.1 h.I.2.2, .slice h.K.1 h.K.2.1 h.K.2.2], .bool bb]) ∧ Nd w' h is ks v ∧ Below w.heap.size w w' ∧ formQ k g ct nx X = (if bb = true then some v else none)
instance : Inhabited NV := ⟨⟨false, [], []⟩⟩
set_option maxHeartbeats 16000000 in
set_option maxRecDepth 100000 in
theorem form_any (k g ct nx : Int) (A : Option Addr) (n c : Nat) (X : List UInt8) (w : World) (hb : Bs w A n c X) (hn : n ≤ 256) (hg : 1 ≤ g ∧ g ≤ 3) (hct : 0 ≤ ct ∧ ct ≤ 65535) :
    Calls Tryz.prog 25 #[.agg #[.int .i64 k, .int .i64 g, .int .i64 ct, .int .i64 nx], .slice A n c] w (fun e w' => FormPost w k g ct nx X e w') := by
  have hlim := hb.lim
  have HX := Aside0.mk hb
  have HN := Aside0.mk hb.len
  have HG := Aside0.mk hg
  obtain ⟨cn, hcn⟩ := Int.eq_ofNat_of_zero_le hct.1
  have hcnb : cn ≤ 65535 := by omega
  have HCN0 := Aside0.mk hcn
  have HCN := Aside0.mk (show ct = (cn : Int) from hcn)
  obtain ⟨lf, hlf⟩ : ∃ b, (k == 76) = b := ⟨_, rfl⟩
  clear hb hg hct hcn
  go_enter Tryz.func25, Tryz.ntmps25
  go_upto_region 2 with fail
  have hA : OfS w 35 70 72 w.heap.size (w.heap.size + 1) (w.heap.size + 1 + 1) (.cells #[.int .i64 k, .int .i64 g, .int .i64 ct, .int .i64 nx] 62) (.cells #[.bool false, .slice none 0 0, .slice none 0 0] 35) lf (none, 0, 0) (none, 0, 0) [] [] (((w.alloc (.cells #[.int .i64 k, .int .i64 g, .int .i64 ct, .int .i64 nx] 62)).alloc (.cells #[.bool false, .slice none 0 0, .slice none 0 0] 35)).alloc (.cells #[.bool lf, .slice none 0 0, .slice none 0 0] 35)) := by
    have s1 : (w.alloc (.cells #[.int .i64 k, .int .i64 g, .int .i64 ct, .int .i64 nx] 62)).heap.size = w.heap.size + 1 := by simp
    have s2 : ((w.alloc (.cells #[.int .i64 k, .int .i64 g, .int .i64 ct, .int .i64 nx] 62)).alloc (.cells #[.bool false, .slice none 0 0, .slice none 0 0] 35)).heap.size = w.heap.size + 1 + 1 := by simp
    have b2 := (Below.refl _ (w.alloc (.cells #[.int .i64 k, .int .i64 g, .int .i64 ct, .int .i64 nx] 62))).alloc (Nat.le_refl _) (.cells #[.bool false, .slice none 0 0, .slice none 0 0] 35)
    have b3 := (Below.refl _ ((w.alloc (.cells #[.int .i64 k, .int .i64 g, .int .i64 ct, .int .i64 nx] 62)).alloc (.cells #[.bool false, .slice none 0 0, .slice none 0 0] 35))).alloc (Nat.le_refl _) (.cells #[.bool lf, .slice none 0 0, .slice none 0 0] 35)
    have r1 := heap_alloc_new w (.cells #[.int .i64 k, .int .i64 g, .int .i64 ct, .int .i64 nx] 62)
    have r2 := heap_alloc_new (w.alloc (.cells #[.int .i64 k, .int .i64 g, .int .i64 ct, .int .i64 nx] 62)) (.cells #[.bool false, .slice none 0 0, .slice none 0 0] 35)
    have r3 := heap_alloc_new ((w.alloc (.cells #[.int .i64 k, .int .i64 g, .int .i64 ct, .int .i64 nx] 62)).alloc (.cells #[.bool false, .slice none 0 0, .slice none 0 0] 35)) (.cells #[.bool lf, .slice none 0 0, .slice none 0 0] 35)
    rw [s1] at r2
    rw [s2] at r3
    have r1' := (b2.block _ (by omega)).trans r1
    exact ⟨(b3.block _ (by omega)).trans r1', (b3.block _ (by omega)).trans r2, r3, below_then (below_two w _ _) (by omega) b3, ⟨Nat.le_refl _, by omega, by omega⟩, Oc.nil _ _ _ _, Oc.nil _ _ _ _, fun k e => (by cases e), fun k e => (by cases e), fun k j e => (by cases e)⟩
  obtain ⟨w0, hw0⟩ : ∃ X, ((w.alloc (.cells #[.int .i64 k, .int .i64 g, .int .i64 ct, .int .i64 nx] 62)).alloc (.cells #[.bool false, .slice none 0 0, .slice none 0 0] 35)).alloc (.cells #[.bool lf, .slice none 0 0, .slice none 0 0] 35) = X := ⟨_, rfl⟩
  obtain ⟨T3, hT3⟩ : ∃ X, w.heap.size + 1 + 1 = X := ⟨_, rfl⟩
  obtain ⟨T2, hT2⟩ : ∃ X, w.heap.size + 1 = X := ⟨_, rfl⟩
  rw [hw0, hT3, hT2] at hA
  rw [hw0]
  try rw [hT3]
  try rw [hT2]
  obtain ⟨N, hN⟩ : ∃ X, w.heap.size = X := ⟨_, rfl⟩
  have H0 := Aside0.mk (show OfS w 35 70 72 N T2 T3 (.cells #[.int .i64 k, .int .i64 g, .int .i64 ct, .int .i64 nx] 62) (.cells #[.bool false, .slice none 0 0, .slice none 0 0] 35) lf (none, 0, 0) (none, 0, 0) [] [] w0 from by rw [← hN]; exact hA)
  rw [hN]
  clear hw0 hT3 hT2 hN hA
  obtain ⟨x0, x1, x2⟩ := nd_cells H0.out.ro
  cases lf with
  | true =>
    have HLF := Aside0.mk (show k = 76 from beq_iff_eq.1 hlf)
    clear hlf
    have HQF := Aside0.mk (show formQ k g ct nx X = match pI X g cn with
        | none => none
        | some t => if zerosB X t.2 = true ∧ t.1.any lacksB = false ∧ nx = 0 ∧ rightN g ⟨true, t.1, []⟩ = true then some ⟨true, t.1, []⟩ else none by
      unfold formQ
      rw [if_pos HLF.out, HCN.out]
      rfl)
    go_wp2_with fail
    clear x0 x1 x2
    go_loopg [7, 8] cn (fun gk v7 v8 wr => ∃ (j a : Nat) (AA : Option Addr) (m cc : Nat) (is : List IH) (l : List IV), Aside (gk + j = cn) ∧ v7 = .int .i64 (a : Int) ∧ v8 = .int .i64 (j : Int) ∧ Aside0 (OfS w 35 70 72 N T2 T3 (.cells #[.int .i64 k, .int .i64 g, .int .i64 ct, .int .i64 nx] 62) (.cells #[.bool false, .slice none 0 0, .slice none 0 0] 35) true (AA, m, cc) (none, 0, 0) is [] wr ∧ pI X g j = some (l, a) ∧ Its w is l ∧ a ≤ n ∧ m ≤ a))
    case atStart => exact ⟨0, 0, none, 0, 0, [], [], rfl, rfl, rfl, ⟨H0.out, rfl, ⟨rfl, fun j p h => by simp at h⟩, Nat.zero_le _, Nat.le_refl _⟩⟩
    case round =>
      obtain ⟨j, a, AA, m, cc, is, l, hk, rfl, rfl, hI⟩ := hrel
      have hjm : j ≤ cn := by have := hk.out; omega
      have han : a ≤ n := hI.out.2.2.2.1
      have hma : m ≤ a := hI.out.2.2.2.2
      obtain ⟨y0, y1, y2, y3⟩ := item_cells2 hI.out.1.rn
      obtain ⟨x0, x1, x2⟩ := nd_cells hI.out.1.ro
      rcases Nat.lt_or_ge j cn with hlt | hge
      · have d1 : decide ((j : Int) < ct) = true := decide_eq_true (by rw [HCN.out]; omega)
        have hjn : (j : Int) < ct := by rw [HCN.out]; omega
        go_upto_region 7 with (go_at_call 58; refine (oneI_any g A n c a X wr HG.out (HX.out.below hI.out.1.bel) hn (by omega)).mono ?_; rintro e w1 ⟨⟨⟨pk, pkn, pkc⟩, ⟨pv, pvn, pvc⟩, ps, pr⟩, en, rfl, hR, hB⟩; (have H1 := Aside0.mk (And.intro (hI.out.1.step hB) hR)); clear hB hR; simp only)
        clear x0 x1 x2 y0 y1 y2 y3
        have h2 := H1.out.1.step ((Below.refl _ w1).alloc (Nat.le_refl _) (.cells #[.slice pk pkn pkc, .slice pv pvn pvc, .int .i64 ps, .int .i64 pr] 70))
        have H2 := Aside0.mk (And.intro h2 (heap_alloc_new w1 (.cells #[.slice pk pkn pkc, .slice pv pvn pvc, .int .i64 ps, .int .i64 pr] 70)))
        obtain ⟨w2, hw2⟩ : ∃ X, w1.alloc (.cells #[.slice pk pkn pkc, .slice pv pvn pvc, .int .i64 ps, .int .i64 pr] 70) = X := ⟨_, rfl⟩
        obtain ⟨M, hM⟩ : ∃ X, w1.heap.size = X := ⟨_, rfl⟩
        rw [hw2, hM] at H2
        rw [hw2, hM]
        clear h2 hw2 hM
        have hR := H1.out.2
        cases ho : oneI X g a with
        | none =>
          unfold oneIR at hR
          rw [ho] at hR
          simp only at hR
          subst hR
          have HQN := Aside0.mk (show formQ k g ct nx X = if (false = true) then some (default : NV) else none by
            have h := pI_stop (pI_none hI.out.2.1 ho) (cn - (j + 1))
            rw [show j + 1 + (cn - (j + 1)) = cn by omega] at h
            rw [HQF.out, h]
            rfl)
          clear ho H1
          go_upto_region 8 with fail
          obtain ⟨x0, x1, x2⟩ := nd_cells H2.out.1.ro
          obtain ⟨y0, y1, y2⟩ := nd_cells H2.out.1.rt
          have yN := fun j => Go.Joins.unfrozen_of_block H2.out.1.rt j
          have HDL := Aside0.mk (rnload (nrow3_set (.bool true) (.slice AA m cc) (.slice none 0 0) H2.out.1.rt))
          have HOB := Aside0.mk (nonly_set3 (W := w2) (g := T2) (.bool true) (.slice AA m cc) (.slice none 0 0))
          go_wp2_with fail
          have hD := HDL.out
          refine bodyPost_ret (v := .tuple #[.agg #[.bool true, .slice AA m cc, .slice none 0 0], .bool false]) (by simp [results, Tryz.results25, asAddr, hD]) rfl ?_
          have hF := OfS.nd H2.out.1 HOB.out hI.out.2.2.1 (kds_nil w) (by simp only; omega) (by simp only; omega)
          unfold FormPost
          exact ⟨_, _, _, _, _, rfl, hF.1, hF.2, HQN.out⟩
        | some r =>
          unfold oneIR at hR
          rw [ho] at hR
          simp only at hR
          obtain ⟨he, hbs, es, er⟩ := hR
          have HEND := Aside0.mk (oneI_end ho)
          have HPS := Aside0.mk (pI_some hI.out.2.1 ho)
          have HIT := Aside0.mk (its_snoc (p := ⟨(pk, pkn, pkc), (pv, pvn, pvc), ps, pr⟩) hI.out.2.2.1 (hbs w HX.out).1 (hbs w HX.out).2 es er)
          obtain ⟨a2, ha2⟩ : ∃ x, r.2 = x := ⟨_, rfl⟩
          rw [ha2] at he HEND HPS
          subst he
          have HA2 := Aside0.mk (show a + 1 ≤ a2 ∧ a2 ≤ n by have := HEND.out; rw [HN.out] at this; exact this)
          clear ho hbs es er H1 ha2
          have dneg : decide ((a2 : Int) < 0) = false := decide_eq_false (by omega)
          obtain ⟨z0, z1, z2, z3⟩ := item_cells2 H2.out.2
          obtain ⟨x0, x1, x2⟩ := nd_cells H2.out.1.ro
          have h6 := H2.out.1.step ((Below.refl _ w2).alloc (Nat.le_refl _) (.cells #[.slice pk pkn pkc, .slice pv pvn pvc, .int .i64 ps, .int .i64 pr] 70))
          have hl6 : (w2.alloc (.cells #[.slice pk pkn pkc, .slice pv pvn pvc, .int .i64 ps, .int .i64 pr] 70)).rangeAt w2.heap.size 0 (ih4 ⟨(pk, pkn, pkc), (pv, pvn, pvc), ps, pr⟩) := lit_range w2 #[.slice pk pkn pkc, .slice pv pvn pvc, .int .i64 ps, .int .i64 pr] 70 [.slice pk pkn pkc, .slice pv pvn pvc, .int .i64 ps, .int .i64 pr] rfl
          have yN := fun j => Go.Joins.unfrozen_of_block h6.ro j
          have H6 := Aside0.mk (And.intro h6 hl6)
          clear h6 hl6
          go_wp2_with (at_builtin; refine wpl_oc w.heap.size (by rfl) _ _ 32 70 (.agg #[.slice none 0 0, .slice none 0 0, .int .i64 0, .int .i64 0]) 4 64 (by rfl) Tryz.underlying32 infoRIt rfl (by omega) (by omega) (by omega) AA m cc _ (ihv is) (ih4 ⟨(pk, pkn, pkc), (pv, pvn, pvc), ps, pr⟩) (by rfl) (by rfl) H6.out.1.oi rfl H6.out.2 (fun u hu => (ihv_one [⟨(pk, pkn, pkc), (pv, pvn, pvc), ps, pr⟩]) u (by simpa [ihv] using hu)) H6.out.1.bel.size (by omega) ?_; intro A2 c2 w7 hO hG hA; (have HF := Aside0.mk (H6.out.1.addI (p := ⟨(pk, pkn, pkc), (pv, pvn, pvc), ps, pr⟩) hO.out hG.out hA.out)); (have hb7 := (hG.out.block _ (Array.getElem?_eq_some_iff.1 H6.out.1.ro).1 (fun e => (H6.out.1.ni _ e).2.2 rfl)).trans H6.out.1.ro); clear yN x0 x1 x2; (obtain ⟨x0, x1, x2⟩ := nd_cells hb7); (have yN := fun j => Go.Joins.unfrozen_of_block hb7 j); clear hO hG hA hb7)
          go_roundg (cn - (j + 1))
          case measure => have := hk.out; omega
          case rel => exact ⟨j + 1, a2, A2, m + 1, c2, _, _, (by show cn - (j + 1) + (j + 1) = cn; omega), rfl, by go_num, ⟨HF.out, HPS.out, HIT.out, HA2.out.2, by have := HA2.out.1; omega⟩⟩
      · obtain rfl : cn = j := by omega
        have d1 : decide ((cn : Int) < ct) = false := decide_eq_false (by rw [HCN.out]; omega)
        have hjn : ¬ ((cn : Int) < ct) := by rw [HCN.out]; omega
        have H5 := Aside0.mk (And.intro hI.out.1 (And.intro hI.out.2.1 hI.out.2.2.1))
        have HQF2 := Aside0.mk (show formQ k g ct nx X = if zerosB X a = true ∧ l.any lacksB = false ∧ nx = 0 ∧ rightN g ⟨true, l, []⟩ = true then some ⟨true, l, []⟩ else none by
          rw [HQF.out, hI.out.2.1])
        clear hI hk HQF
        go_wp2_with fail
        clear x0 x1 x2 y0 y1 y2 y3
        go_loopg [7] (n - a) (fun gk v7 wr => ∃ i : Nat, Aside (gk + i = n) ∧ v7 = .int .i64 (i : Int) ∧ Aside0 (OfS w 35 70 72 N T2 T3 (.cells #[.int .i64 k, .int .i64 g, .int .i64 ct, .int .i64 nx] 62) (.cells #[.bool false, .slice none 0 0, .slice none 0 0] 35) true (AA, m, cc) (none, 0, 0) is [] wr ∧ a ≤ i ∧ i ≤ n ∧ ∀ q, a ≤ q → q < i → bN X q = 0))
        case atStart => exact ⟨a, (by show n - a + a = n; omega), rfl, ⟨H5.out.1, Nat.le_refl _, han, fun q h1 h2 => by omega⟩⟩
        case round =>
          obtain ⟨i, hk, rfl, hI⟩ := hrel
          have hin : i ≤ n := hI.out.2.2.1
          rcases Nat.lt_or_ge i n with hlt | hge
          · have d2 : decide ((i : Int) < (n : Int)) = true := decide_eq_true (by omega)
            have d2n : (i : Int) < (n : Int) := by omega
            obtain ⟨ad, hA, k0⟩ := (HX.out.below hI.out.1.bel).atN i hlt
            subst hA
            rw [b8_bN] at k0
            obtain ⟨F, hF⟩ : ∃ x, bN X i = x := ⟨_, rfl⟩
            rw [hF] at k0
            have HF0 := Aside0.mk hF
            clear hF
            by_cases qF : F = 0
            case neg =>
              have f0 : ((F : Int) != 0) = true := bne_iff_ne.2 (by omega)
              have f0n : (F != 0) = true := bne_iff_ne.2 qF
              have HQN := Aside0.mk (show formQ k g ct nx X = if (false = true) then some (default : NV) else none by
                have hz := zeros_not hI.out.2.1 (by rw [HN.out]; exact hlt) (by rw [HF0.out]; exact qF)
                rw [HQF2.out, if_neg (fun h => by rw [hz] at h; exact absurd h.1 (by decide))]
                rfl)
              clear qF
              go_upto_region 15 with fail
              clear k0
              obtain ⟨x0, x1, x2⟩ := nd_cells hI.out.1.ro
              obtain ⟨y0, y1, y2⟩ := nd_cells hI.out.1.rt
              have yN := fun j => Go.Joins.unfrozen_of_block hI.out.1.rt j
              have HDL := Aside0.mk (rnload (nrow3_set (.bool true) (.slice AA m cc) (.slice none 0 0) hI.out.1.rt))
              have HOB := Aside0.mk (nonly_set3 (W := wr) (g := T2) (.bool true) (.slice AA m cc) (.slice none 0 0))
              go_wp2_with fail
              have hD := HDL.out
              refine bodyPost_ret (v := .tuple #[.agg #[.bool true, .slice AA m cc, .slice none 0 0], .bool false]) (by simp [results, Tryz.results25, asAddr, hD]) rfl ?_
              have hF := OfS.nd hI.out.1 HOB.out H5.out.2.2 (kds_nil w) (by simp only; omega) (by simp only; omega)
              unfold FormPost
              exact ⟨_, _, _, _, _, rfl, hF.1, hF.2, HQN.out⟩
            case pos =>
              subst qF
              go_wp2_with fail
              go_roundg (n - (i + 1))
              case measure => have := hk.out; omega
              case rel => exact ⟨i + 1, (by show n - (i + 1) + (i + 1) = n; omega), by go_num, ⟨hI.out.1, by have := hI.out.2.1; omega, by omega, fun q h1 h2 => by
                rcases Nat.lt_or_ge q i with h3 | h3
                · exact hI.out.2.2.2 q h1 h3
                · obtain rfl : q = i := by omega
                  exact HF0.out⟩⟩
          · obtain rfl : n = i := by omega
            have d2 : decide ((n : Int) < (n : Int)) = false := by simp
            have HZ := Aside0.mk (show zerosB X a = true from zeros_of (fun q h1 h2 => hI.out.2.2.2 q h1 (by rw [HN.out] at h2; exact h2)))
            have H6 := Aside0.mk hI.out.1
            clear hI hk
            go_wp2_with fail
            go_loopg [11] m (fun gk v11 wr => ∃ i : Nat, Aside (gk + i = m) ∧ v11 = .int .i64 (i : Int) ∧ Aside0 (OfS w 35 70 72 N T2 T3 (.cells #[.int .i64 k, .int .i64 g, .int .i64 ct, .int .i64 nx] 62) (.cells #[.bool false, .slice none 0 0, .slice none 0 0] 35) true (AA, m, cc) (none, 0, 0) is [] wr ∧ ∀ q ∈ l.take i, lacksB q = false))
            case atStart => exact ⟨0, rfl, rfl, ⟨H6.out, fun q hq => by simp at hq⟩⟩
            case round =>
              obtain ⟨i, hk, rfl, hI⟩ := hrel
              have him : i ≤ m := by have := hk.out; omega
              obtain ⟨x0, x1, x2⟩ := nd_cells hI.out.1.ro
              rcases Nat.lt_or_ge i m with hlt | hge
              · have d3 : decide ((i : Int) < (m : Int)) = true := decide_eq_true (by omega)
                have d3n : (i : Int) < (m : Int) := by omega
                have hil : is.length = m := by have h := hI.out.1.oi.len; rw [ihv_len] at h; simp only at h; omega
                obtain ⟨ad, p, e0, hp, c0, c1, c2, c3⟩ := hI.out.1.oi.rc.item hil i hlt
                obtain ⟨q, hq, bk, bv, es, er⟩ := H5.out.2.2.each i p hp
                simp only at e0
                subst e0
                obtain ⟨⟨pk, pkn, pkc⟩, ⟨pv, pvn, pvc⟩, ps, pr⟩ := p
                obtain ⟨qk, qv, qs, qr⟩ := q
                unfold shv at c0 c1
                unfold Bsh at bk bv
                simp only at c0 c1 c2 c3 bk bv es er
                subst es er
                have HVL := Aside0.mk bv.len
                have HQI := Aside0.mk hq
                clear hp hq bk bv hil
                have hfar := fun W => rfar_any pk pkn pkc pv pvn pvc ps pr W
                obtain ⟨fb, hfb⟩ : ∃ b, farB pvn pr = b := ⟨_, rfl⟩
                rw [hfb] at hfar
                have HLB := Aside0.mk (show lacksB ⟨qk, qv, ps, pr⟩ = (fb && decide (pr = 0)) by
                  unfold lacksB
                  simp only
                  rw [HVL.out, hfb])
                clear hfb
                have cF : ∀ W, _ := hfar
                clear hfar
                by_cases ql : fb = true ∧ pr = 0
                case pos =>
                  obtain ⟨rfl, rfl⟩ := ql
                  have HQN := Aside0.mk (show formQ k g ct nx X = if (false = true) then some (default : NV) else none by
                    have hl : l.any lacksB = true := List.any_eq_true.2 ⟨_, List.mem_of_getElem? HQI.out, HLB.out⟩
                    rw [HQF2.out, if_neg (fun h => by rw [hl] at h; exact absurd h.2.1 (by decide))]
                    rfl)
                  go_upto_region 21 with (go_at_call 59; refine (cF wr).mono ?_; rintro e w8 ⟨rfl, hB⟩; (have H8 := Aside0.mk (hI.out.1.step hB)); clear x0 x1 x2; (obtain ⟨x0, x1, x2⟩ := nd_cells H8.out.ro); (have c9 := (hB.cell (World.block_lt_of_cell? _ _ c3)).trans c3); clear c0 c1 c2 c3 hB)
                  clear x0 x1 x2 c9
                  obtain ⟨x0, x1, x2⟩ := nd_cells H8.out.ro
                  obtain ⟨y0, y1, y2⟩ := nd_cells H8.out.rt
                  have yN := fun j => Go.Joins.unfrozen_of_block H8.out.rt j
                  have HDL := Aside0.mk (rnload (nrow3_set (.bool true) (.slice (some ad) m cc) (.slice none 0 0) H8.out.rt))
                  have HOB := Aside0.mk (nonly_set3 (W := w8) (g := T2) (.bool true) (.slice (some ad) m cc) (.slice none 0 0))
                  go_wp2_with fail
                  have hD := HDL.out
                  refine bodyPost_ret (v := .tuple #[.agg #[.bool true, .slice (some ad) m cc, .slice none 0 0], .bool false]) (by simp [results, Tryz.results25, asAddr, hD]) rfl ?_
                  have hF := OfS.nd H8.out HOB.out H5.out.2.2 (kds_nil w) (by simp only; omega) (by simp only; omega)
                  unfold FormPost
                  exact ⟨_, _, _, _, _, rfl, hF.1, hF.2, HQN.out⟩
                case neg =>
                  have HNL := Aside0.mk (show lacksB ⟨qk, qv, ps, pr⟩ = false by
                    rw [HLB.out]
                    cases fb with
                    | false => rfl
                    | true => exact decide_eq_false (fun h => ql ⟨rfl, h⟩))
                  cases fb with
                  | false =>
                    clear ql
                    go_wp2_with (go_at_call 59; refine (cF wr).mono ?_; rintro e w8 ⟨rfl, hB⟩; (have H8 := Aside0.mk (hI.out.1.step hB)); clear hB)
                    go_roundg (m - (i + 1))
                    case measure => have := hk.out; omega
                    case rel => exact ⟨i + 1, (by show m - (i + 1) + (i + 1) = m; omega), by go_num, ⟨H8.out, fun q hq => by
                      rw [List.take_add_one, HQI.out, Option.toList_some] at hq
                      rcases List.mem_append.1 hq with hq | hq
                      · exact hI.out.2 q hq
                      · obtain rfl := List.mem_singleton.1 hq
                        exact HNL.out⟩⟩
                  | true =>
                    have e4 : (pr == 0) = false := beq_eq_false_iff_ne.2 (fun h => ql ⟨rfl, h⟩)
                    clear ql
                    go_wp2_with (go_at_call 59; refine (cF wr).mono ?_; rintro e w8 ⟨rfl, hB⟩; (have H8 := Aside0.mk (hI.out.1.step hB)); clear x0 x1 x2; (obtain ⟨x0, x1, x2⟩ := nd_cells H8.out.ro); (have c9 := (hB.cell (World.block_lt_of_cell? _ _ c3)).trans c3); clear c0 c1 c2 c3 hB)
                    go_roundg (m - (i + 1))
                    case measure => have := hk.out; omega
                    case rel => exact ⟨i + 1, (by show m - (i + 1) + (i + 1) = m; omega), by go_num, ⟨H8.out, fun q hq => by
                      rw [List.take_add_one, HQI.out, Option.toList_some] at hq
                      rcases List.mem_append.1 hq with hq | hq
                      · exact hI.out.2 q hq
                      · obtain rfl := List.mem_singleton.1 hq
                        exact HNL.out⟩⟩
              · obtain rfl : m = i := by omega
                have d3 : decide ((m : Int) < (m : Int)) = false := by simp
                have HLK := Aside0.mk (show l.any lacksB = false by
                  cases hl : l.any lacksB with
                  | false => rfl
                  | true =>
                    obtain ⟨q, hq, hq2⟩ := List.any_eq_true.1 hl
                    have hil : l.length = m := by rw [← H5.out.2.2.len]; have h := hI.out.1.oi.len; rw [ihv_len] at h; simp only at h; omega
                    rw [hI.out.2 q (by rw [List.take_of_length_le (by omega)]; exact hq)] at hq2
                    cases hq2)
                have H7 := Aside0.mk hI.out.1
                obtain ⟨y0, y1, y2, y3⟩ := item_cells2 H7.out.rn
                go_upto_region 22 with fail
                have hA := H7.out.step (below_drew (Below.refl _ wr))
                obtain ⟨v0, hv0⟩ : ∃ X, wr.drew = X := ⟨_, rfl⟩
                rw [hv0] at hA
                have H8 := Aside0.mk hA
                clear hA x0 x1 x2 y0 y1 y2 y3
                have HSS := Aside0.mk (show ∀ X : World, X.heap[N]? = some (.cells #[.int .i64 k, .int .i64 g, .int .i64 ct, .int .i64 nx] 62) → X.heap[T3]? = some (.cells #[.bool true, .slice AA m cc, .slice none 0 0] 35) → X.cell? ⟨N, 1, none⟩ = some (.int .i64 g) ∧ X.cell? ⟨N, 3, none⟩ = some (.int .i64 nx) ∧ X.cell? ⟨T3, 0, none⟩ = some (.bool true) ∧ X.cell? ⟨T3, 1, none⟩ = some (.slice AA m cc) ∧ X.cell? ⟨T3, 2, none⟩ = some (.slice none 0 0) from fun X h1 h2 => ⟨(item_cells2 h1).2.1, (item_cells2 h1).2.2.2, (nd_cells h2).1, (nd_cells h2).2.1, (nd_cells h2).2.2⟩)
                by_cases qn : nx = 0
                case neg =>
                  have e1 : (nx == 0) = false := beq_eq_false_iff_ne.2 qn
                  have HQN := Aside0.mk (show formQ k g ct nx X = if (false = true) then some (default : NV) else none by
                    rw [HQF2.out, if_neg (fun h => qn (h.2.2.1))]
                    rfl)
                  clear qn
                  refine wp_region_M (fun j => decide (j < 11)) (fun w' => w'.cell? ⟨N, 1, none⟩ = some (.int .i64 g) ∧ w'.cell? ⟨N, 3, none⟩ = some (.int .i64 nx) ∧ w'.cell? ⟨T3, 0, none⟩ = some (.bool true) ∧ w'.cell? ⟨T3, 1, none⟩ = some (.slice AA m cc) ∧ w'.cell? ⟨T3, 2, none⟩ = some (.slice none 0 0)) (by kernel_rfl) ?_
                  rw [hv0]
                  clear hv0
                  refine wpAnyM_take (i := 0) (v := ?_) (by simp only [List.getElem?_toArray, List.getElem?_cons_succ, List.getElem?_cons_zero]; rfl) (by kernel_rfl) (by kernel_rfl) (by kernel_rfl) (by kernel_rfl) (by exact fun _ _ _ h => h) (Or.inl ⟨by rfl, ?_⟩) (HSS.out _ H8.out.rn H8.out.ro) ?_
                  rotate_left
                  · (intro w' hSw; (try dsimp only at hSw); go_simp; try with_reducible rfl)
                  try simp only [Act.put, List.setIfInBounds_toArray, List.set_cons_zero, List.set_cons_succ]
                  refine wpAnyM_take (i := 1) (v := ?_) (by simp only [List.getElem?_toArray, List.getElem?_cons_succ, List.getElem?_cons_zero]; rfl) (by kernel_rfl) (by kernel_rfl) (by kernel_rfl) (by kernel_rfl) (by exact fun _ _ _ h => h) (Or.inl ⟨by rfl, ?_⟩) (HSS.out _ H8.out.rn H8.out.ro) ?_
                  rotate_left
                  · (intro w' hSw; (try dsimp only at hSw); go_simp; try with_reducible rfl)
                  try simp only [Act.put, List.setIfInBounds_toArray, List.set_cons_zero, List.set_cons_succ]
                  refine wpAnyM_take (i := 2) (v := ?_) (by simp only [List.getElem?_toArray, List.getElem?_cons_succ, List.getElem?_cons_zero]; rfl) (by kernel_rfl) (by kernel_rfl) (by kernel_rfl) (by kernel_rfl) (by exact fun _ _ _ h => h) (Or.inl ⟨by rfl, ?_⟩) (HSS.out _ H8.out.rn H8.out.ro) ?_
                  rotate_left
                  · (intro w' hSw; (try dsimp only at hSw); go_simp; try with_reducible rfl)
                  try simp only [Act.put, List.setIfInBounds_toArray, List.set_cons_zero, List.set_cons_succ]
                  refine wpAnyM_take (i := 3) (v := ?_) (by simp only [List.getElem?_toArray, List.getElem?_cons_succ, List.getElem?_cons_zero]; rfl) (by kernel_rfl) (by kernel_rfl) (by kernel_rfl) (by kernel_rfl) (by exact fun _ _ _ h => h) (Or.inl ⟨by rfl, ?_⟩) (HSS.out _ H8.out.rn H8.out.ro) ?_
                  rotate_left
                  · (intro w' hSw; (try dsimp only at hSw); go_simp; try with_reducible rfl)
                  try simp only [Act.put, List.setIfInBounds_toArray, List.set_cons_zero, List.set_cons_succ]
                  refine wpAnyM_take (i := 4) (v := ?_) (by simp only [List.getElem?_toArray, List.getElem?_cons_succ, List.getElem?_cons_zero]; rfl) (by kernel_rfl) (by kernel_rfl) (by kernel_rfl) (by kernel_rfl) (by exact fun _ _ _ h => h) (Or.inl ⟨by rfl, ?_⟩) (HSS.out _ H8.out.rn H8.out.ro) ?_
                  rotate_left
                  · (intro w' hSw; (try dsimp only at hSw); go_simp; try with_reducible rfl)
                  try simp only [Act.put, List.setIfInBounds_toArray, List.set_cons_zero, List.set_cons_succ]
                  refine wpAnyM_take (i := 5) (v := undef) (by simp only [List.getElem?_toArray, List.getElem?_cons_succ, List.getElem?_cons_zero]; rfl) (by kernel_rfl) (by kernel_rfl) (by kernel_rfl) (by kernel_rfl) (by exact fun _ _ _ h => h) (Or.inr ⟨by rfl, rfl⟩) (HSS.out _ H8.out.rn H8.out.ro) ?_
                  try simp only [Act.put, List.setIfInBounds_toArray, List.set_cons_zero, List.set_cons_succ]
                  refine wpAnyM_take (i := 6) (v := undef) (by simp only [List.getElem?_toArray, List.getElem?_cons_succ, List.getElem?_cons_zero]; rfl) (by kernel_rfl) (by kernel_rfl) (by kernel_rfl) (by kernel_rfl) (by exact fun _ _ _ h => h) (Or.inr ⟨by rfl, rfl⟩) (HSS.out _ H8.out.rn H8.out.ro) ?_
                  try simp only [Act.put, List.setIfInBounds_toArray, List.set_cons_zero, List.set_cons_succ]
                  refine wpAnyM_take (i := 7) (v := undef) (by simp only [List.getElem?_toArray, List.getElem?_cons_succ, List.getElem?_cons_zero]; rfl) (by kernel_rfl) (by kernel_rfl) (by kernel_rfl) (by kernel_rfl) (by exact fun _ _ _ h => h) (Or.inr ⟨by rfl, rfl⟩) (HSS.out _ H8.out.rn H8.out.ro) ?_
                  try simp only [Act.put, List.setIfInBounds_toArray, List.set_cons_zero, List.set_cons_succ]
                  refine wpAnyM_take (i := 8) (v := undef) (by simp only [List.getElem?_toArray, List.getElem?_cons_succ, List.getElem?_cons_zero]; rfl) (by kernel_rfl) (by kernel_rfl) (by kernel_rfl) (by kernel_rfl) (by exact fun _ _ _ h => h) (Or.inr ⟨by rfl, rfl⟩) (HSS.out _ H8.out.rn H8.out.ro) ?_
                  try simp only [Act.put, List.setIfInBounds_toArray, List.set_cons_zero, List.set_cons_succ]
                  refine wpAnyM_take (i := 9) (v := ?_) (by simp only [List.getElem?_toArray, List.getElem?_cons_succ, List.getElem?_cons_zero]; rfl) (by kernel_rfl) (by kernel_rfl) (by kernel_rfl) (by kernel_rfl) (by exact fun _ _ _ h => h) (Or.inl ⟨by rfl, ?_⟩) (HSS.out _ H8.out.rn H8.out.ro) ?_
                  rotate_left
                  · (intro w' hSw; (try dsimp only at hSw); go_simp; try with_reducible rfl)
                  try simp only [Act.put, List.setIfInBounds_toArray, List.set_cons_zero, List.set_cons_succ]
                  refine wpAnyM_one (i := 10) (by kernel_rfl) (by simp only [List.getElem?_toArray, List.getElem?_cons_succ, List.getElem?_cons_zero]; rfl) ?_
                  obtain ⟨y0, y1, y2⟩ := nd_cells H8.out.rt
                  have yN := fun j => Go.Joins.unfrozen_of_block H8.out.rt j
                  have HDL := Aside0.mk (rnload (nrow3_set (.bool true) (.slice AA m cc) (.slice none 0 0) H8.out.rt))
                  have HOB := Aside0.mk (nonly_set3 (W := v0) (g := T2) (.bool true) (.slice AA m cc) (.slice none 0 0))
                  have HN1 := Aside0.mk (And.intro ((HOB.out.block N (Array.getElem?_eq_some_iff.1 H8.out.rn).1 (by have := H8.out.lo; omega)).trans H8.out.rn) ((HOB.out.block T3 (Array.getElem?_eq_some_iff.1 H8.out.ro).1 (by have := H8.out.lo; omega)).trans H8.out.ro))
                  go_wp2_with fail
                  refine ⟨(by have h := HSS.out _ HN1.out.1 HN1.out.2; simpa [go_sem] using h), ?_⟩
                  try simp only [Act.put, List.setIfInBounds_toArray, List.set_cons_zero, List.set_cons_succ]
                  refine wpAnyM_one (i := 11) (by kernel_rfl) (by simp only [List.getElem?_toArray, List.getElem?_cons_succ, List.getElem?_cons_zero]; rfl) ?_
                  go_wp2_with fail
                  try simp only [Act.put, List.setIfInBounds_toArray, List.set_cons_zero, List.set_cons_succ]
                  refine wpAnyM_done (by kernel_rfl) ?_ _
                  have hD := HDL.out
                  go_wp2_with fail
                  refine bodyPost_ret (v := .tuple #[.agg #[.bool true, .slice AA m cc, .slice none 0 0], .bool false]) (by simp [results, Tryz.results25, asAddr, hD]) rfl ?_
                  have hF := OfS.nd H8.out HOB.out H5.out.2.2 (kds_nil w) (by simp only; omega) (by simp only; omega)
                  unfold FormPost
                  exact ⟨_, _, _, _, _, rfl, hF.1, hF.2, HQN.out⟩
                case pos =>
                  subst qn
                  have HLEN := Aside0.mk (show l.length = m by rw [← H5.out.2.2.len]; have := H5.out.1.oi.len; rw [ihv_len] at this; simp only at this; omega)
                  have cR := r6right_any ⟨true, (AA, m, cc), (none, 0, 0)⟩ is [] ⟨true, l, []⟩ g v0 (OfS.nd H8.out (OnlyB.refl T2 v0) H5.out.2.2 (kds_nil w) (by simp only; omega) (by simp only; omega)).1
                  simp only [nhv] at cR
                  obtain ⟨rb, hrb⟩ : ∃ b, rightN g ⟨true, l, []⟩ = b := ⟨_, rfl⟩
                  rw [hrb] at cR
                  have HQN := Aside0.mk (show formQ k g ct 0 X = if rb = true then some ⟨true, l, []⟩ else none by
                    rw [HQF2.out]
                    cases rb with
                    | true => rw [if_pos ⟨HZ.out, HLK.out, rfl, hrb⟩, if_pos rfl]
                    | false => rw [if_neg (fun h => by rw [hrb] at h; exact absurd h.2.2.2 (by decide)), if_neg (by decide)])
                  clear hrb
                  refine wp_region_M (fun j => decide (j < 11)) (fun w' => w'.cell? ⟨N, 1, none⟩ = some (.int .i64 g) ∧ w'.cell? ⟨N, 3, none⟩ = some (.int .i64 0) ∧ w'.cell? ⟨T3, 0, none⟩ = some (.bool true) ∧ w'.cell? ⟨T3, 1, none⟩ = some (.slice AA m cc) ∧ w'.cell? ⟨T3, 2, none⟩ = some (.slice none 0 0)) (by kernel_rfl) ?_
                  rw [hv0]
                  clear hv0
                  refine wpAnyM_take (i := 0) (v := ?_) (by simp only [List.getElem?_toArray, List.getElem?_cons_succ, List.getElem?_cons_zero]; rfl) (by kernel_rfl) (by kernel_rfl) (by kernel_rfl) (by kernel_rfl) (by exact fun _ _ _ h => h) (Or.inl ⟨by rfl, ?_⟩) (HSS.out _ H8.out.rn H8.out.ro) ?_
                  rotate_left
                  · (intro w' hSw; (try dsimp only at hSw); go_simp; try with_reducible rfl)
                  try simp only [Act.put, List.setIfInBounds_toArray, List.set_cons_zero, List.set_cons_succ]
                  refine wpAnyM_take (i := 1) (v := ?_) (by simp only [List.getElem?_toArray, List.getElem?_cons_succ, List.getElem?_cons_zero]; rfl) (by kernel_rfl) (by kernel_rfl) (by kernel_rfl) (by kernel_rfl) (by exact fun _ _ _ h => h) (Or.inl ⟨by rfl, ?_⟩) (HSS.out _ H8.out.rn H8.out.ro) ?_
                  rotate_left
                  · (intro w' hSw; (try dsimp only at hSw); go_simp; try with_reducible rfl)
                  try simp only [Act.put, List.setIfInBounds_toArray, List.set_cons_zero, List.set_cons_succ]
                  refine wpAnyM_take (i := 2) (v := ?_) (by simp only [List.getElem?_toArray, List.getElem?_cons_succ, List.getElem?_cons_zero]; rfl) (by kernel_rfl) (by kernel_rfl) (by kernel_rfl) (by kernel_rfl) (by exact fun _ _ _ h => h) (Or.inl ⟨by rfl, ?_⟩) (HSS.out _ H8.out.rn H8.out.ro) ?_
                  rotate_left
                  · (intro w' hSw; (try dsimp only at hSw); go_simp; try with_reducible rfl)
                  try simp only [Act.put, List.setIfInBounds_toArray, List.set_cons_zero, List.set_cons_succ]
                  refine wpAnyM_take (i := 3) (v := ?_) (by simp only [List.getElem?_toArray, List.getElem?_cons_succ, List.getElem?_cons_zero]; rfl) (by kernel_rfl) (by kernel_rfl) (by kernel_rfl) (by kernel_rfl) (by exact fun _ _ _ h => h) (Or.inl ⟨by rfl, ?_⟩) (HSS.out _ H8.out.rn H8.out.ro) ?_
                  rotate_left
                  · (intro w' hSw; (try dsimp only at hSw); go_simp; try with_reducible rfl)
                  try simp only [Act.put, List.setIfInBounds_toArray, List.set_cons_zero, List.set_cons_succ]
                  refine wpAnyM_take (i := 4) (v := ?_) (by simp only [List.getElem?_toArray, List.getElem?_cons_succ, List.getElem?_cons_zero]; rfl) (by kernel_rfl) (by kernel_rfl) (by kernel_rfl) (by kernel_rfl) (by exact fun _ _ _ h => h) (Or.inl ⟨by rfl, ?_⟩) (HSS.out _ H8.out.rn H8.out.ro) ?_
                  rotate_left
                  · (intro w' hSw; (try dsimp only at hSw); go_simp; try with_reducible rfl)
                  try simp only [Act.put, List.setIfInBounds_toArray, List.set_cons_zero, List.set_cons_succ]
                  refine wpAnyM_take (i := 5) (v := ?_) (by simp only [List.getElem?_toArray, List.getElem?_cons_succ, List.getElem?_cons_zero]; rfl) (by kernel_rfl) (by kernel_rfl) (by kernel_rfl) (by kernel_rfl) (by exact fun _ _ _ h => h) (Or.inl ⟨by rfl, ?_⟩) (HSS.out _ H8.out.rn H8.out.ro) ?_
                  rotate_left
                  · (intro w' hSw; (try dsimp only at hSw); go_simp; try with_reducible rfl)
                  try simp only [Act.put, List.setIfInBounds_toArray, List.set_cons_zero, List.set_cons_succ]
                  refine wpAnyM_take (i := 6) (v := ?_) (by simp only [List.getElem?_toArray, List.getElem?_cons_succ, List.getElem?_cons_zero]; rfl) (by kernel_rfl) (by kernel_rfl) (by kernel_rfl) (by kernel_rfl) (by exact fun _ _ _ h => h) (Or.inl ⟨by rfl, ?_⟩) (HSS.out _ H8.out.rn H8.out.ro) ?_
                  rotate_left
                  · (intro w' hSw; (try dsimp only at hSw); go_simp; try with_reducible rfl)
                  try simp only [Act.put, List.setIfInBounds_toArray, List.set_cons_zero, List.set_cons_succ]
                  refine wpAnyM_take (i := 7) (v := ?_) (by simp only [List.getElem?_toArray, List.getElem?_cons_succ, List.getElem?_cons_zero]; rfl) (by kernel_rfl) (by kernel_rfl) (by kernel_rfl) (by kernel_rfl) (by exact fun _ _ _ h => h) (Or.inl ⟨by rfl, ?_⟩) (HSS.out _ H8.out.rn H8.out.ro) ?_
                  rotate_left
                  · (intro w' hSw; (try dsimp only at hSw); go_simp; try with_reducible rfl)
                  try simp only [Act.put, List.setIfInBounds_toArray, List.set_cons_zero, List.set_cons_succ]
                  refine wpAnyM_one (i := 8) (by kernel_rfl) (by simp only [List.getElem?_toArray, List.getElem?_cons_succ, List.getElem?_cons_zero]; rfl) ?_
                  go_wp2_with (go_at_call 60; refine cR.mono ?_; rintro e v1 ⟨rfl, hB⟩; (have H9 := Aside0.mk (H8.out.step hB)); clear hB)
                  refine ⟨HSS.out _ H9.out.rn H9.out.ro, ?_⟩
                  try simp only [Act.put, List.setIfInBounds_toArray, List.set_cons_zero, List.set_cons_succ]
                  refine wpAnyM_take (i := 9) (v := ?_) (by simp only [List.getElem?_toArray, List.getElem?_cons_succ, List.getElem?_cons_zero]; rfl) (by kernel_rfl) (by kernel_rfl) (by kernel_rfl) (by kernel_rfl) (by exact fun _ _ _ h => h) (Or.inl ⟨by rfl, ?_⟩) (HSS.out _ H9.out.rn H9.out.ro) ?_
                  rotate_left
                  · (intro w' hSw; (try dsimp only at hSw); go_simp; try with_reducible rfl)
                  try simp only [Act.put, List.setIfInBounds_toArray, List.set_cons_zero, List.set_cons_succ]
                  refine wpAnyM_one (i := 10) (by kernel_rfl) (by simp only [List.getElem?_toArray, List.getElem?_cons_succ, List.getElem?_cons_zero]; rfl) ?_
                  obtain ⟨y0, y1, y2⟩ := nd_cells H9.out.rt
                  have yN := fun j => Go.Joins.unfrozen_of_block H9.out.rt j
                  have HDL := Aside0.mk (rnload (nrow3_set (.bool true) (.slice AA m cc) (.slice none 0 0) H9.out.rt))
                  have HOB := Aside0.mk (nonly_set3 (W := v1) (g := T2) (.bool true) (.slice AA m cc) (.slice none 0 0))
                  have HN1 := Aside0.mk (And.intro ((HOB.out.block N (Array.getElem?_eq_some_iff.1 H9.out.rn).1 (by have := H9.out.lo; omega)).trans H9.out.rn) ((HOB.out.block T3 (Array.getElem?_eq_some_iff.1 H9.out.ro).1 (by have := H9.out.lo; omega)).trans H9.out.ro))
                  go_wp2_with fail
                  refine ⟨(by have h := HSS.out _ HN1.out.1 HN1.out.2; simpa [go_sem] using h), ?_⟩
                  try simp only [Act.put, List.setIfInBounds_toArray, List.set_cons_zero, List.set_cons_succ]
                  refine wpAnyM_one (i := 11) (by kernel_rfl) (by simp only [List.getElem?_toArray, List.getElem?_cons_succ, List.getElem?_cons_zero]; rfl) ?_
                  go_wp2_with fail
                  try simp only [Act.put, List.setIfInBounds_toArray, List.set_cons_zero, List.set_cons_succ]
                  refine wpAnyM_done (by kernel_rfl) ?_ _
                  have hD := HDL.out
                  go_wp2_with fail
                  refine bodyPost_ret (v := .tuple #[.agg #[.bool true, .slice AA m cc, .slice none 0 0], .bool rb]) (by simp [results, Tryz.results25, asAddr, hD]) rfl ?_
                  have hF := OfS.nd H9.out HOB.out H5.out.2.2 (kds_nil w) (by simp only; omega) (by simp only; omega)
                  unfold FormPost
                  exact ⟨_, _, _, _, _, rfl, hF.1, hF.2, HQN.out⟩
  | false =>
    have HLF := Aside0.mk (show ¬ k = 76 from fun h => by rw [h] at hlf; exact absurd hlf (by decide))
    clear hlf
    have HQF := Aside0.mk (show formQ k g ct nx X = match pK X g cn with
        | none => none
        | some t => if zerosB X t.2 = true ∧ nx = 0 ∧ rightN g ⟨false, [], t.1⟩ = true then some ⟨false, [], t.1⟩ else none by
      unfold formQ
      rw [if_neg HLF.out, HCN.out]
      rfl)
    go_wp2_with fail
    clear x0 x1 x2
    go_loopg [7, 8] cn (fun gk v7 v8 wr => ∃ (j a : Nat) (AA : Option Addr) (m cc : Nat) (is : List KH) (l : List KV), Aside (gk + j = cn) ∧ v7 = .int .i64 (a : Int) ∧ v8 = .int .i64 (j : Int) ∧ Aside0 (OfS w 35 70 72 N T2 T3 (.cells #[.int .i64 k, .int .i64 g, .int .i64 ct, .int .i64 nx] 62) (.cells #[.bool false, .slice none 0 0, .slice none 0 0] 35) false (none, 0, 0) (AA, m, cc) [] is wr ∧ pK X g j = some (l, a) ∧ Kds w is l ∧ a ≤ n ∧ m ≤ a))
    case atStart => exact ⟨0, 0, none, 0, 0, [], [], rfl, rfl, rfl, ⟨H0.out, rfl, ⟨rfl, fun j p h => by simp at h⟩, Nat.zero_le _, Nat.le_refl _⟩⟩
    case round =>
      obtain ⟨j, a, AA, m, cc, is, l, hk, rfl, rfl, hI⟩ := hrel
      have hjm : j ≤ cn := by have := hk.out; omega
      have han : a ≤ n := hI.out.2.2.2.1
      have hma : m ≤ a := hI.out.2.2.2.2
      obtain ⟨y0, y1, y2, y3⟩ := item_cells2 hI.out.1.rn
      obtain ⟨x0, x1, x2⟩ := nd_cells hI.out.1.ro
      rcases Nat.lt_or_ge j cn with hlt | hge
      · have d1 : decide ((j : Int) < ct) = true := decide_eq_true (by rw [HCN.out]; omega)
        have hjn : (j : Int) < ct := by rw [HCN.out]; omega
        go_upto_region 7 with (go_at_call 58; refine (oneK_any g A n c a X wr HG.out (HX.out.below hI.out.1.bel) hn (by omega)).mono ?_; rintro e w1 ⟨⟨⟨pk, pkn, pkc⟩, ⟨pv, pvn, pvc⟩, ps, pr⟩, en, rfl, hR, hB⟩; (have H1 := Aside0.mk (And.intro (hI.out.1.step hB) hR)); clear hB hR; simp only)
        clear x0 x1 x2 y0 y1 y2 y3
        have h2 := H1.out.1.step ((Below.refl _ w1).alloc (Nat.le_refl _) (.cells #[.slice pk pkn pkc, .slice pv pvn pvc, .int .i64 ps, .int .i64 pr] 70))
        have H2 := Aside0.mk (And.intro h2 (heap_alloc_new w1 (.cells #[.slice pk pkn pkc, .slice pv pvn pvc, .int .i64 ps, .int .i64 pr] 70)))
        obtain ⟨w2, hw2⟩ : ∃ X, w1.alloc (.cells #[.slice pk pkn pkc, .slice pv pvn pvc, .int .i64 ps, .int .i64 pr] 70) = X := ⟨_, rfl⟩
        obtain ⟨M, hM⟩ : ∃ X, w1.heap.size = X := ⟨_, rfl⟩
        rw [hw2, hM] at H2
        rw [hw2, hM]
        clear h2 hw2 hM
        have hR := H1.out.2
        cases ho : oneK X g a with
        | none =>
          unfold oneKR at hR
          rw [ho] at hR
          simp only at hR
          subst hR
          have HQN := Aside0.mk (show formQ k g ct nx X = if (false = true) then some (default : NV) else none by
            have h := pK_stop (pK_none hI.out.2.1 ho) (cn - (j + 1))
            rw [show j + 1 + (cn - (j + 1)) = cn by omega] at h
            rw [HQF.out, h]
            rfl)
          clear ho H1
          go_upto_region 8 with fail
          obtain ⟨x0, x1, x2⟩ := nd_cells H2.out.1.ro
          obtain ⟨y0, y1, y2⟩ := nd_cells H2.out.1.rt
          have yN := fun j => Go.Joins.unfrozen_of_block H2.out.1.rt j
          have HDL := Aside0.mk (rnload (nrow3_set (.bool false) (.slice none 0 0) (.slice AA m cc) H2.out.1.rt))
          have HOB := Aside0.mk (nonly_set3 (W := w2) (g := T2) (.bool false) (.slice none 0 0) (.slice AA m cc))
          go_wp2_with fail
          have hD := HDL.out
          refine bodyPost_ret (v := .tuple #[.agg #[.bool false, .slice none 0 0, .slice AA m cc], .bool false]) (by simp [results, Tryz.results25, asAddr, hD]) rfl ?_
          have hF := OfS.nd H2.out.1 HOB.out (its_nil w) hI.out.2.2.1 (by simp only; omega) (by simp only; omega)
          unfold FormPost
          exact ⟨_, _, _, _, _, rfl, hF.1, hF.2, HQN.out⟩
        | some r =>
          unfold oneKR at hR
          rw [ho] at hR
          simp only at hR
          obtain ⟨he, hbs, er⟩ := hR
          have HEND := Aside0.mk (oneK_end ho)
          have HPS := Aside0.mk (pK_some hI.out.2.1 ho)
          have HIT := Aside0.mk (kds_snoc (p := ⟨(pk, pkn, pkc), pr⟩) hI.out.2.2.1 (hbs w HX.out) er)
          obtain ⟨a2, ha2⟩ : ∃ x, r.2 = x := ⟨_, rfl⟩
          rw [ha2] at he HEND HPS
          subst he
          have HA2 := Aside0.mk (show a + 1 ≤ a2 ∧ a2 ≤ n by have := HEND.out; rw [HN.out] at this; exact this)
          clear ho hbs er H1 ha2
          have dneg : decide ((a2 : Int) < 0) = false := decide_eq_false (by omega)
          obtain ⟨z0, z1, z2, z3⟩ := item_cells2 H2.out.2
          obtain ⟨x0, x1, x2⟩ := nd_cells H2.out.1.ro
          have h6 := H2.out.1.step ((Below.refl _ w2).alloc (Nat.le_refl _) (.cells #[.slice pk pkn pkc, .int .i64 pr] 72))
          have hl6 : (w2.alloc (.cells #[.slice pk pkn pkc, .int .i64 pr] 72)).rangeAt w2.heap.size 0 (kh2 ⟨(pk, pkn, pkc), pr⟩) := lit_range w2 #[.slice pk pkn pkc, .int .i64 pr] 72 [.slice pk pkn pkc, .int .i64 pr] rfl
          have yN := fun j => Go.Joins.unfrozen_of_block h6.ro j
          have H6 := Aside0.mk (And.intro h6 hl6)
          clear h6 hl6
          go_wp2_with (at_builtin; refine wpl_oc w.heap.size (by rfl) _ _ 33 72 (.agg #[.slice none 0 0, .int .i64 0]) 2 32 (by rfl) Tryz.underlying33 infoRKd rfl (by omega) (by omega) (by omega) AA m cc _ (khv is) (kh2 ⟨(pk, pkn, pkc), pr⟩) (by rfl) (by rfl) H6.out.1.ok rfl H6.out.2 (fun u hu => (khv_one [⟨(pk, pkn, pkc), pr⟩]) u (by simpa [khv] using hu)) H6.out.1.bel.size (by omega) ?_; intro A2 c2 w7 hO hG hA; (have HF := Aside0.mk (H6.out.1.addK (p := ⟨(pk, pkn, pkc), pr⟩) hO.out hG.out hA.out)); (have hb7 := (hG.out.block _ (Array.getElem?_eq_some_iff.1 H6.out.1.ro).1 (fun e => (H6.out.1.nk _ e).2.2 rfl)).trans H6.out.1.ro); clear yN x0 x1 x2; (obtain ⟨x0, x1, x2⟩ := nd_cells hb7); (have yN := fun j => Go.Joins.unfrozen_of_block hb7 j); clear hO hG hA hb7)
          go_roundg (cn - (j + 1))
          case measure => have := hk.out; omega
          case rel => exact ⟨j + 1, a2, A2, m + 1, c2, _, _, (by show cn - (j + 1) + (j + 1) = cn; omega), rfl, by go_num, ⟨HF.out, HPS.out, HIT.out, HA2.out.2, by have := HA2.out.1; omega⟩⟩
      · obtain rfl : cn = j := by omega
        have d1 : decide ((cn : Int) < ct) = false := decide_eq_false (by rw [HCN.out]; omega)
        have hjn : ¬ ((cn : Int) < ct) := by rw [HCN.out]; omega
        have H5 := Aside0.mk (And.intro hI.out.1 (And.intro hI.out.2.1 hI.out.2.2.1))
        have HQF2 := Aside0.mk (show formQ k g ct nx X = if zerosB X a = true ∧ nx = 0 ∧ rightN g ⟨false, [], l⟩ = true then some ⟨false, [], l⟩ else none by
          rw [HQF.out, hI.out.2.1])
        clear hI hk HQF
        go_wp2_with fail
        clear x0 x1 x2 y0 y1 y2 y3
        go_loopg [7] (n - a) (fun gk v7 wr => ∃ i : Nat, Aside (gk + i = n) ∧ v7 = .int .i64 (i : Int) ∧ Aside0 (OfS w 35 70 72 N T2 T3 (.cells #[.int .i64 k, .int .i64 g, .int .i64 ct, .int .i64 nx] 62) (.cells #[.bool false, .slice none 0 0, .slice none 0 0] 35) false (none, 0, 0) (AA, m, cc) [] is wr ∧ a ≤ i ∧ i ≤ n ∧ ∀ q, a ≤ q → q < i → bN X q = 0))
        case atStart => exact ⟨a, (by show n - a + a = n; omega), rfl, ⟨H5.out.1, Nat.le_refl _, han, fun q h1 h2 => by omega⟩⟩
        case round =>
          obtain ⟨i, hk, rfl, hI⟩ := hrel
          have hin : i ≤ n := hI.out.2.2.1
          rcases Nat.lt_or_ge i n with hlt | hge
          · have d2 : decide ((i : Int) < (n : Int)) = true := decide_eq_true (by omega)
            have d2n : (i : Int) < (n : Int) := by omega
            obtain ⟨ad, hA, k0⟩ := (HX.out.below hI.out.1.bel).atN i hlt
            subst hA
            rw [b8_bN] at k0
            obtain ⟨F, hF⟩ : ∃ x, bN X i = x := ⟨_, rfl⟩
            rw [hF] at k0
            have HF0 := Aside0.mk hF
            clear hF
            by_cases qF : F = 0
            case neg =>
              have f0 : ((F : Int) != 0) = true := bne_iff_ne.2 (by omega)
              have f0n : (F != 0) = true := bne_iff_ne.2 qF
              have HQN := Aside0.mk (show formQ k g ct nx X = if (false = true) then some (default : NV) else none by
                have hz := zeros_not hI.out.2.1 (by rw [HN.out]; exact hlt) (by rw [HF0.out]; exact qF)
                rw [HQF2.out, if_neg (fun h => by rw [hz] at h; exact absurd h.1 (by decide))]
                rfl)
              clear qF
              go_upto_region 15 with fail
              clear k0
              obtain ⟨x0, x1, x2⟩ := nd_cells hI.out.1.ro
              obtain ⟨y0, y1, y2⟩ := nd_cells hI.out.1.rt
              have yN := fun j => Go.Joins.unfrozen_of_block hI.out.1.rt j
              have HDL := Aside0.mk (rnload (nrow3_set (.bool false) (.slice none 0 0) (.slice AA m cc) hI.out.1.rt))
              have HOB := Aside0.mk (nonly_set3 (W := wr) (g := T2) (.bool false) (.slice none 0 0) (.slice AA m cc))
              go_wp2_with fail
              have hD := HDL.out
              refine bodyPost_ret (v := .tuple #[.agg #[.bool false, .slice none 0 0, .slice AA m cc], .bool false]) (by simp [results, Tryz.results25, asAddr, hD]) rfl ?_
              have hF := OfS.nd hI.out.1 HOB.out (its_nil w) H5.out.2.2 (by simp only; omega) (by simp only; omega)
              unfold FormPost
              exact ⟨_, _, _, _, _, rfl, hF.1, hF.2, HQN.out⟩
            case pos =>
              subst qF
              go_wp2_with fail
              go_roundg (n - (i + 1))
              case measure => have := hk.out; omega
              case rel => exact ⟨i + 1, (by show n - (i + 1) + (i + 1) = n; omega), by go_num, ⟨hI.out.1, by have := hI.out.2.1; omega, by omega, fun q h1 h2 => by
                rcases Nat.lt_or_ge q i with h3 | h3
                · exact hI.out.2.2.2 q h1 h3
                · obtain rfl : q = i := by omega
                  exact HF0.out⟩⟩
          · obtain rfl : n = i := by omega
            have d2 : decide ((n : Int) < (n : Int)) = false := by simp
            have HZ := Aside0.mk (show zerosB X a = true from zeros_of (fun q h1 h2 => hI.out.2.2.2 q h1 (by rw [HN.out] at h2; exact h2)))
            have H6 := Aside0.mk hI.out.1
            clear hI hk
            go_wp2_with fail
            go_loopg [11] 0 (fun gk v11 wr => ∃ i : Nat, Aside (gk + i = 0) ∧ v11 = .int .i64 (i : Int) ∧ Aside0 (OfS w 35 70 72 N T2 T3 (.cells #[.int .i64 k, .int .i64 g, .int .i64 ct, .int .i64 nx] 62) (.cells #[.bool false, .slice none 0 0, .slice none 0 0] 35) false (none, 0, 0) (AA, m, cc) [] is wr ∧ True))
            case atStart => exact ⟨0, rfl, rfl, ⟨H6.out, trivial⟩⟩
            case round =>
              obtain ⟨i, hk, rfl, hI⟩ := hrel
              have him : i ≤ 0 := by have := hk.out; omega
              obtain ⟨x0, x1, x2⟩ := nd_cells hI.out.1.ro
              · obtain rfl : i = 0 := by omega
                have d3 : decide ((0 : Int) < 0) = false := by decide
                have H7 := Aside0.mk hI.out.1
                obtain ⟨y0, y1, y2, y3⟩ := item_cells2 H7.out.rn
                go_upto_region 22 with fail
                have hA := H7.out.step (below_drew (Below.refl _ wr))
                obtain ⟨v0, hv0⟩ : ∃ X, wr.drew = X := ⟨_, rfl⟩
                rw [hv0] at hA
                have H8 := Aside0.mk hA
                clear hA x0 x1 x2 y0 y1 y2 y3
                have HSS := Aside0.mk (show ∀ X : World, X.heap[N]? = some (.cells #[.int .i64 k, .int .i64 g, .int .i64 ct, .int .i64 nx] 62) → X.heap[T3]? = some (.cells #[.bool false, .slice none 0 0, .slice AA m cc] 35) → X.cell? ⟨N, 1, none⟩ = some (.int .i64 g) ∧ X.cell? ⟨N, 3, none⟩ = some (.int .i64 nx) ∧ X.cell? ⟨T3, 0, none⟩ = some (.bool false) ∧ X.cell? ⟨T3, 1, none⟩ = some (.slice none 0 0) ∧ X.cell? ⟨T3, 2, none⟩ = some (.slice AA m cc) from fun X h1 h2 => ⟨(item_cells2 h1).2.1, (item_cells2 h1).2.2.2, (nd_cells h2).1, (nd_cells h2).2.1, (nd_cells h2).2.2⟩)
                by_cases qn : nx = 0
                case neg =>
                  have e1 : (nx == 0) = false := beq_eq_false_iff_ne.2 qn
                  have HQN := Aside0.mk (show formQ k g ct nx X = if (false = true) then some (default : NV) else none by
                    rw [HQF2.out, if_neg (fun h => qn (h.2.1))]
                    rfl)
                  clear qn
                  refine wp_region_M (fun j => decide (j < 11)) (fun w' => w'.cell? ⟨N, 1, none⟩ = some (.int .i64 g) ∧ w'.cell? ⟨N, 3, none⟩ = some (.int .i64 nx) ∧ w'.cell? ⟨T3, 0, none⟩ = some (.bool false) ∧ w'.cell? ⟨T3, 1, none⟩ = some (.slice none 0 0) ∧ w'.cell? ⟨T3, 2, none⟩ = some (.slice AA m cc)) (by kernel_rfl) ?_
                  rw [hv0]
                  clear hv0
                  refine wpAnyM_take (i := 0) (v := ?_) (by simp only [List.getElem?_toArray, List.getElem?_cons_succ, List.getElem?_cons_zero]; rfl) (by kernel_rfl) (by kernel_rfl) (by kernel_rfl) (by kernel_rfl) (by exact fun _ _ _ h => h) (Or.inl ⟨by rfl, ?_⟩) (HSS.out _ H8.out.rn H8.out.ro) ?_
                  rotate_left
                  · (intro w' hSw; (try dsimp only at hSw); go_simp; try with_reducible rfl)
                  try simp only [Act.put, List.setIfInBounds_toArray, List.set_cons_zero, List.set_cons_succ]
                  refine wpAnyM_take (i := 1) (v := ?_) (by simp only [List.getElem?_toArray, List.getElem?_cons_succ, List.getElem?_cons_zero]; rfl) (by kernel_rfl) (by kernel_rfl) (by kernel_rfl) (by kernel_rfl) (by exact fun _ _ _ h => h) (Or.inl ⟨by rfl, ?_⟩) (HSS.out _ H8.out.rn H8.out.ro) ?_
                  rotate_left
                  · (intro w' hSw; (try dsimp only at hSw); go_simp; try with_reducible rfl)
                  try simp only [Act.put, List.setIfInBounds_toArray, List.set_cons_zero, List.set_cons_succ]
                  refine wpAnyM_take (i := 2) (v := ?_) (by simp only [List.getElem?_toArray, List.getElem?_cons_succ, List.getElem?_cons_zero]; rfl) (by kernel_rfl) (by kernel_rfl) (by kernel_rfl) (by kernel_rfl) (by exact fun _ _ _ h => h) (Or.inl ⟨by rfl, ?_⟩) (HSS.out _ H8.out.rn H8.out.ro) ?_
                  rotate_left
                  · (intro w' hSw; (try dsimp only at hSw); go_simp; try with_reducible rfl)
                  try simp only [Act.put, List.setIfInBounds_toArray, List.set_cons_zero, List.set_cons_succ]
                  refine wpAnyM_take (i := 3) (v := ?_) (by simp only [List.getElem?_toArray, List.getElem?_cons_succ, List.getElem?_cons_zero]; rfl) (by kernel_rfl) (by kernel_rfl) (by kernel_rfl) (by kernel_rfl) (by exact fun _ _ _ h => h) (Or.inl ⟨by rfl, ?_⟩) (HSS.out _ H8.out.rn H8.out.ro) ?_
                  rotate_left
                  · (intro w' hSw; (try dsimp only at hSw); go_simp; try with_reducible rfl)
                  try simp only [Act.put, List.setIfInBounds_toArray, List.set_cons_zero, List.set_cons_succ]
                  refine wpAnyM_take (i := 4) (v := ?_) (by simp only [List.getElem?_toArray, List.getElem?_cons_succ, List.getElem?_cons_zero]; rfl) (by kernel_rfl) (by kernel_rfl) (by kernel_rfl) (by kernel_rfl) (by exact fun _ _ _ h => h) (Or.inl ⟨by rfl, ?_⟩) (HSS.out _ H8.out.rn H8.out.ro) ?_
                  rotate_left
                  · (intro w' hSw; (try dsimp only at hSw); go_simp; try with_reducible rfl)
                  try simp only [Act.put, List.setIfInBounds_toArray, List.set_cons_zero, List.set_cons_succ]
                  refine wpAnyM_take (i := 5) (v := undef) (by simp only [List.getElem?_toArray, List.getElem?_cons_succ, List.getElem?_cons_zero]; rfl) (by kernel_rfl) (by kernel_rfl) (by kernel_rfl) (by kernel_rfl) (by exact fun _ _ _ h => h) (Or.inr ⟨by rfl, rfl⟩) (HSS.out _ H8.out.rn H8.out.ro) ?_
                  try simp only [Act.put, List.setIfInBounds_toArray, List.set_cons_zero, List.set_cons_succ]
                  refine wpAnyM_take (i := 6) (v := undef) (by simp only [List.getElem?_toArray, List.getElem?_cons_succ, List.getElem?_cons_zero]; rfl) (by kernel_rfl) (by kernel_rfl) (by kernel_rfl) (by kernel_rfl) (by exact fun _ _ _ h => h) (Or.inr ⟨by rfl, rfl⟩) (HSS.out _ H8.out.rn H8.out.ro) ?_
                  try simp only [Act.put, List.setIfInBounds_toArray, List.set_cons_zero, List.set_cons_succ]
                  refine wpAnyM_take (i := 7) (v := undef) (by simp only [List.getElem?_toArray, List.getElem?_cons_succ, List.getElem?_cons_zero]; rfl) (by kernel_rfl) (by kernel_rfl) (by kernel_rfl) (by kernel_rfl) (by exact fun _ _ _ h => h) (Or.inr ⟨by rfl, rfl⟩) (HSS.out _ H8.out.rn H8.out.ro) ?_
                  try simp only [Act.put, List.setIfInBounds_toArray, List.set_cons_zero, List.set_cons_succ]
                  refine wpAnyM_take (i := 8) (v := undef) (by simp only [List.getElem?_toArray, List.getElem?_cons_succ, List.getElem?_cons_zero]; rfl) (by kernel_rfl) (by kernel_rfl) (by kernel_rfl) (by kernel_rfl) (by exact fun _ _ _ h => h) (Or.inr ⟨by rfl, rfl⟩) (HSS.out _ H8.out.rn H8.out.ro) ?_
                  try simp only [Act.put, List.setIfInBounds_toArray, List.set_cons_zero, List.set_cons_succ]
                  refine wpAnyM_take (i := 9) (v := ?_) (by simp only [List.getElem?_toArray, List.getElem?_cons_succ, List.getElem?_cons_zero]; rfl) (by kernel_rfl) (by kernel_rfl) (by kernel_rfl) (by kernel_rfl) (by exact fun _ _ _ h => h) (Or.inl ⟨by rfl, ?_⟩) (HSS.out _ H8.out.rn H8.out.ro) ?_
                  rotate_left
                  · (intro w' hSw; (try dsimp only at hSw); go_simp; try with_reducible rfl)
                  try simp only [Act.put, List.setIfInBounds_toArray, List.set_cons_zero, List.set_cons_succ]
                  refine wpAnyM_one (i := 10) (by kernel_rfl) (by simp only [List.getElem?_toArray, List.getElem?_cons_succ, List.getElem?_cons_zero]; rfl) ?_
                  obtain ⟨y0, y1, y2⟩ := nd_cells H8.out.rt
                  have yN := fun j => Go.Joins.unfrozen_of_block H8.out.rt j
                  have HDL := Aside0.mk (rnload (nrow3_set (.bool false) (.slice none 0 0) (.slice AA m cc) H8.out.rt))
                  have HOB := Aside0.mk (nonly_set3 (W := v0) (g := T2) (.bool false) (.slice none 0 0) (.slice AA m cc))
                  have HN1 := Aside0.mk (And.intro ((HOB.out.block N (Array.getElem?_eq_some_iff.1 H8.out.rn).1 (by have := H8.out.lo; omega)).trans H8.out.rn) ((HOB.out.block T3 (Array.getElem?_eq_some_iff.1 H8.out.ro).1 (by have := H8.out.lo; omega)).trans H8.out.ro))
                  go_wp2_with fail
                  refine ⟨(by have h := HSS.out _ HN1.out.1 HN1.out.2; simpa [go_sem] using h), ?_⟩
                  try simp only [Act.put, List.setIfInBounds_toArray, List.set_cons_zero, List.set_cons_succ]
                  refine wpAnyM_one (i := 11) (by kernel_rfl) (by simp only [List.getElem?_toArray, List.getElem?_cons_succ, List.getElem?_cons_zero]; rfl) ?_
                  go_wp2_with fail
                  try simp only [Act.put, List.setIfInBounds_toArray, List.set_cons_zero, List.set_cons_succ]
                  refine wpAnyM_done (by kernel_rfl) ?_ _
                  have hD := HDL.out
                  go_wp2_with fail
                  refine bodyPost_ret (v := .tuple #[.agg #[.bool false, .slice none 0 0, .slice AA m cc], .bool false]) (by simp [results, Tryz.results25, asAddr, hD]) rfl ?_
                  have hF := OfS.nd H8.out HOB.out (its_nil w) H5.out.2.2 (by simp only; omega) (by simp only; omega)
                  unfold FormPost
                  exact ⟨_, _, _, _, _, rfl, hF.1, hF.2, HQN.out⟩
                case pos =>
                  subst qn
                  have HLEN := Aside0.mk (show l.length = m by rw [← H5.out.2.2.len]; have := H5.out.1.ok.len; rw [khv_len] at this; simp only at this; omega)
                  have cR := r6right_any ⟨false, (none, 0, 0), (AA, m, cc)⟩ [] is ⟨false, [], l⟩ g v0 (OfS.nd H8.out (OnlyB.refl T2 v0) (its_nil w) H5.out.2.2 (by simp only; omega) (by simp only; omega)).1
                  simp only [nhv] at cR
                  obtain ⟨rb, hrb⟩ : ∃ b, rightN g ⟨false, [], l⟩ = b := ⟨_, rfl⟩
                  rw [hrb] at cR
                  have HQN := Aside0.mk (show formQ k g ct 0 X = if rb = true then some ⟨false, [], l⟩ else none by
                    rw [HQF2.out]
                    cases rb with
                    | true => rw [if_pos ⟨HZ.out, rfl, hrb⟩, if_pos rfl]
                    | false => rw [if_neg (fun h => by rw [hrb] at h; exact absurd h.2.2 (by decide)), if_neg (by decide)])
                  clear hrb
                  refine wp_region_M (fun j => decide (j < 11)) (fun w' => w'.cell? ⟨N, 1, none⟩ = some (.int .i64 g) ∧ w'.cell? ⟨N, 3, none⟩ = some (.int .i64 0) ∧ w'.cell? ⟨T3, 0, none⟩ = some (.bool false) ∧ w'.cell? ⟨T3, 1, none⟩ = some (.slice none 0 0) ∧ w'.cell? ⟨T3, 2, none⟩ = some (.slice AA m cc)) (by kernel_rfl) ?_
                  rw [hv0]
                  clear hv0
                  refine wpAnyM_take (i := 0) (v := ?_) (by simp only [List.getElem?_toArray, List.getElem?_cons_succ, List.getElem?_cons_zero]; rfl) (by kernel_rfl) (by kernel_rfl) (by kernel_rfl) (by kernel_rfl) (by exact fun _ _ _ h => h) (Or.inl ⟨by rfl, ?_⟩) (HSS.out _ H8.out.rn H8.out.ro) ?_
                  rotate_left
                  · (intro w' hSw; (try dsimp only at hSw); go_simp; try with_reducible rfl)
                  try simp only [Act.put, List.setIfInBounds_toArray, List.set_cons_zero, List.set_cons_succ]
                  refine wpAnyM_take (i := 1) (v := ?_) (by simp only [List.getElem?_toArray, List.getElem?_cons_succ, List.getElem?_cons_zero]; rfl) (by kernel_rfl) (by kernel_rfl) (by kernel_rfl) (by kernel_rfl) (by exact fun _ _ _ h => h) (Or.inl ⟨by rfl, ?_⟩) (HSS.out _ H8.out.rn H8.out.ro) ?_
                  rotate_left
                  · (intro w' hSw; (try dsimp only at hSw); go_simp; try with_reducible rfl)
                  try simp only [Act.put, List.setIfInBounds_toArray, List.set_cons_zero, List.set_cons_succ]
                  refine wpAnyM_take (i := 2) (v := ?_) (by simp only [List.getElem?_toArray, List.getElem?_cons_succ, List.getElem?_cons_zero]; rfl) (by kernel_rfl) (by kernel_rfl) (by kernel_rfl) (by kernel_rfl) (by exact fun _ _ _ h => h) (Or.inl ⟨by rfl, ?_⟩) (HSS.out _ H8.out.rn H8.out.ro) ?_
                  rotate_left
                  · (intro w' hSw; (try dsimp only at hSw); go_simp; try with_reducible rfl)
                  try simp only [Act.put, List.setIfInBounds_toArray, List.set_cons_zero, List.set_cons_succ]
                  refine wpAnyM_take (i := 3) (v := ?_) (by simp only [List.getElem?_toArray, List.getElem?_cons_succ, List.getElem?_cons_zero]; rfl) (by kernel_rfl) (by kernel_rfl) (by kernel_rfl) (by kernel_rfl) (by exact fun _ _ _ h => h) (Or.inl ⟨by rfl, ?_⟩) (HSS.out _ H8.out.rn H8.out.ro) ?_
                  rotate_left
                  · (intro w' hSw; (try dsimp only at hSw); go_simp; try with_reducible rfl)
                  try simp only [Act.put, List.setIfInBounds_toArray, List.set_cons_zero, List.set_cons_succ]
                  refine wpAnyM_take (i := 4) (v := ?_) (by simp only [List.getElem?_toArray, List.getElem?_cons_succ, List.getElem?_cons_zero]; rfl) (by kernel_rfl) (by kernel_rfl) (by kernel_rfl) (by kernel_rfl) (by exact fun _ _ _ h => h) (Or.inl ⟨by rfl, ?_⟩) (HSS.out _ H8.out.rn H8.out.ro) ?_
                  rotate_left
                  · (intro w' hSw; (try dsimp only at hSw); go_simp; try with_reducible rfl)
                  try simp only [Act.put, List.setIfInBounds_toArray, List.set_cons_zero, List.set_cons_succ]
                  refine wpAnyM_take (i := 5) (v := ?_) (by simp only [List.getElem?_toArray, List.getElem?_cons_succ, List.getElem?_cons_zero]; rfl) (by kernel_rfl) (by kernel_rfl) (by kernel_rfl) (by kernel_rfl) (by exact fun _ _ _ h => h) (Or.inl ⟨by rfl, ?_⟩) (HSS.out _ H8.out.rn H8.out.ro) ?_
                  rotate_left
                  · (intro w' hSw; (try dsimp only at hSw); go_simp; try with_reducible rfl)
                  try simp only [Act.put, List.setIfInBounds_toArray, List.set_cons_zero, List.set_cons_succ]
                  refine wpAnyM_take (i := 6) (v := ?_) (by simp only [List.getElem?_toArray, List.getElem?_cons_succ, List.getElem?_cons_zero]; rfl) (by kernel_rfl) (by kernel_rfl) (by kernel_rfl) (by kernel_rfl) (by exact fun _ _ _ h => h) (Or.inl ⟨by rfl, ?_⟩) (HSS.out _ H8.out.rn H8.out.ro) ?_
                  rotate_left
                  · (intro w' hSw; (try dsimp only at hSw); go_simp; try with_reducible rfl)
                  try simp only [Act.put, List.setIfInBounds_toArray, List.set_cons_zero, List.set_cons_succ]
                  refine wpAnyM_take (i := 7) (v := ?_) (by simp only [List.getElem?_toArray, List.getElem?_cons_succ, List.getElem?_cons_zero]; rfl) (by kernel_rfl) (by kernel_rfl) (by kernel_rfl) (by kernel_rfl) (by exact fun _ _ _ h => h) (Or.inl ⟨by rfl, ?_⟩) (HSS.out _ H8.out.rn H8.out.ro) ?_
                  rotate_left
                  · (intro w' hSw; (try dsimp only at hSw); go_simp; try with_reducible rfl)
                  try simp only [Act.put, List.setIfInBounds_toArray, List.set_cons_zero, List.set_cons_succ]
                  refine wpAnyM_one (i := 8) (by kernel_rfl) (by simp only [List.getElem?_toArray, List.getElem?_cons_succ, List.getElem?_cons_zero]; rfl) ?_
                  go_wp2_with (go_at_call 60; refine cR.mono ?_; rintro e v1 ⟨rfl, hB⟩; (have H9 := Aside0.mk (H8.out.step hB)); clear hB)
                  refine ⟨HSS.out _ H9.out.rn H9.out.ro, ?_⟩
                  try simp only [Act.put, List.setIfInBounds_toArray, List.set_cons_zero, List.set_cons_succ]
                  refine wpAnyM_take (i := 9) (v := ?_) (by simp only [List.getElem?_toArray, List.getElem?_cons_succ, List.getElem?_cons_zero]; rfl) (by kernel_rfl) (by kernel_rfl) (by kernel_rfl) (by kernel_rfl) (by exact fun _ _ _ h => h) (Or.inl ⟨by rfl, ?_⟩) (HSS.out _ H9.out.rn H9.out.ro) ?_
                  rotate_left
                  · (intro w' hSw; (try dsimp only at hSw); go_simp; try with_reducible rfl)
                  try simp only [Act.put, List.setIfInBounds_toArray, List.set_cons_zero, List.set_cons_succ]
                  refine wpAnyM_one (i := 10) (by kernel_rfl) (by simp only [List.getElem?_toArray, List.getElem?_cons_succ, List.getElem?_cons_zero]; rfl) ?_
                  obtain ⟨y0, y1, y2⟩ := nd_cells H9.out.rt
                  have yN := fun j => Go.Joins.unfrozen_of_block H9.out.rt j
                  have HDL := Aside0.mk (rnload (nrow3_set (.bool false) (.slice none 0 0) (.slice AA m cc) H9.out.rt))
                  have HOB := Aside0.mk (nonly_set3 (W := v1) (g := T2) (.bool false) (.slice none 0 0) (.slice AA m cc))
                  have HN1 := Aside0.mk (And.intro ((HOB.out.block N (Array.getElem?_eq_some_iff.1 H9.out.rn).1 (by have := H9.out.lo; omega)).trans H9.out.rn) ((HOB.out.block T3 (Array.getElem?_eq_some_iff.1 H9.out.ro).1 (by have := H9.out.lo; omega)).trans H9.out.ro))
                  go_wp2_with fail
                  refine ⟨(by have h := HSS.out _ HN1.out.1 HN1.out.2; simpa [go_sem] using h), ?_⟩
                  try simp only [Act.put, List.setIfInBounds_toArray, List.set_cons_zero, List.set_cons_succ]
                  refine wpAnyM_one (i := 11) (by kernel_rfl) (by simp only [List.getElem?_toArray, List.getElem?_cons_succ, List.getElem?_cons_zero]; rfl) ?_
                  go_wp2_with fail
                  try simp only [Act.put, List.setIfInBounds_toArray, List.set_cons_zero, List.set_cons_succ]
                  refine wpAnyM_done (by kernel_rfl) ?_ _
                  have hD := HDL.out
                  go_wp2_with fail
                  refine bodyPost_ret (v := .tuple #[.agg #[.bool false, .slice none 0 0, .slice AA m cc], .bool rb]) (by simp [results, Tryz.results25, asAddr, hD]) rfl ?_
                  have hF := OfS.nd H9.out HOB.out (its_nil w) H5.out.2.2 (by simp only; omega) (by simp only; omega)
                  unfold FormPost
                  exact ⟨_, _, _, _, _, rfl, hF.1, hF.2, HQN.out⟩
end Go.Proofs.YtbjfklgmbeaaoaaGreat
