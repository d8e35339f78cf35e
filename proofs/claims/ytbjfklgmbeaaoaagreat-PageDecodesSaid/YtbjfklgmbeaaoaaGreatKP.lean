/- Which nodes may be, as the document has it: the walk of ref06's Right, and that it says what node's says. -/
import Derived.Test.YtbjfklgmbeaaoaaGreatKO
set_option linter.unusedVariables false
set_option linter.unusedSimpArgs false
namespace Go.Proofs.YtbjfklgmbeaaoaaGreat
open Go.RowKit

theorem arr_get {α : Type} {l : List α} {i : Nat} {o : α} (h : l[i]? = some o) : l.toArray[i]? = some o := by simpa using h
abbrev ivd : IV := ⟨[], [], 0, 0⟩
abbrev kvd : KV := ⟨[], 0⟩
def okI (g : Int) (l : List IV) (j : Nat) : Prop := wrongB g (l.getD j ivd) = false ∧ ∀ i, j = i + 1 → Lib.compareBytes (l.getD i ivd).k (l.getD j ivd).k = -1
def okK (g : Int) (l : List KV) (j : Nat) : Prop := (2 ≤ (l.getD j kvd).r ∧ (l.getD j kvd).r ≤ 16383) ∧ ((l.getD j kvd).k.length : Int) ≤ mkI g ∧ (j = 0 ↔ (l.getD j kvd).k.length = 0) ∧ ∀ i, j = i + 1 → 1 < j → Lib.compareBytes (l.getD i kvd).k (l.getD j kvd).k = -1
theorem cmp_neg {xs ys : List UInt8} : Lib.compareBytes xs ys < 0 ↔ Lib.compareBytes xs ys = -1 := by
  rcases cmp_three xs ys with h | h | h <;> omega
theorem right_leaf {g : Int} {v : NV} (hl : v.leaf = true) (hg : 1 ≤ g ∧ g ≤ 3) (hf : fitsN g v = true) : rightN g v = true ↔ (∀ j, j < v.items.length → okI g v.items j) ∧ v.kids.length = 0 := by
  have hgb : genB g = true := decide_eq_true hg
  unfold rightN
  rw [hgb, hf, if_pos hl, Bool.and_true, Bool.true_and, Bool.and_eq_true]
  unfold leafB
  rw [Bool.and_eq_true, Bool.not_eq_true', decide_eq_true_iff, risB_iff]
  constructor
  · rintro ⟨⟨h1, h2⟩, h3⟩
    refine ⟨fun j hj => ⟨?_, fun i hi => ?_⟩, h1⟩
    · have hm : v.items.getD j ivd ∈ v.items := by rw [List.getD_eq_getElem?_getD, List.getElem?_eq_getElem hj]; exact List.getElem_mem hj
      cases hw : wrongB g (v.items.getD j ivd) with
      | false => rfl
      | true => rw [List.any_eq_true.2 ⟨_, hm, hw⟩] at h2; cases h2
    · subst hi
      have h4 := h3 i (by unfold keysL; rw [List.length_append, List.length_map]; omega)
      unfold cmpI keysL at h4
      rw [List.eq_nil_of_length_eq_zero h1, List.drop_nil, List.map_nil, List.append_nil] at h4
      have e : ∀ k, k < v.items.length → (v.items.map IV.k).getD k [] = (v.items.getD k ivd).k := fun k hk => by simp [List.getD_eq_getElem?_getD, hk]
      rw [e i (by omega), e (i + 1) hj] at h4
      exact cmp_neg.1 h4
  · rintro ⟨h1, h2⟩
    refine ⟨⟨h2, ?_⟩, fun i hi => ?_⟩
    · cases hw : v.items.any (wrongB g) with
      | false => rfl
      | true =>
        obtain ⟨q, hq, hq2⟩ := List.any_eq_true.1 hw
        obtain ⟨j, hj⟩ := List.getElem?_of_mem hq
        have := (h1 j (List.getElem?_eq_some_iff.1 hj).1).1
        rw [getD_of hj, hq2] at this
        cases this
    · unfold keysL at hi
      rw [List.eq_nil_of_length_eq_zero h2, List.drop_nil, List.map_nil, List.append_nil, List.length_map] at hi
      have h4 := (h1 (i + 1) hi).2 i rfl
      unfold cmpI keysL
      rw [List.eq_nil_of_length_eq_zero h2, List.drop_nil, List.map_nil, List.append_nil]
      have e : ∀ k, k < v.items.length → (v.items.map IV.k).getD k [] = (v.items.getD k ivd).k := fun k hk => by simp [List.getD_eq_getElem?_getD, hk]
      rw [e i (by omega), e (i + 1) hi]
      exact cmp_neg.2 h4
theorem right_branch {g : Int} {v : NV} (hl : v.leaf = false) (hg : 1 ≤ g ∧ g ≤ 3) (hf : fitsN g v = true) : rightN g v = true ↔ (∀ j, j < v.kids.length → okK g v.kids j) ∧ v.kids.length ≠ 0 ∧ v.items.length = 0 := by
  have hgb : genB g = true := decide_eq_true hg
  have hm0 : 0 ≤ mkI g := by rcases (show g = 1 ∨ g = 2 ∨ g = 3 by omega) with rfl | rfl | rfl <;> decide
  unfold rightN
  rw [hgb, hf, if_neg (by rw [hl]; decide), Bool.and_true, Bool.true_and, Bool.and_eq_true]
  unfold branchB
  rw [Bool.and_eq_true, decide_eq_true_iff, risB_iff, kidsB_iff]
  have e : ∀ k, k + 1 < v.kids.length → ((v.kids.drop 1).map KV.k).getD k [] = (v.kids.getD (k + 1) kvd).k := fun k hk => by
    simp [List.getD_eq_getElem?_getD, hk, Nat.add_comm]
  constructor
  · rintro ⟨⟨⟨h1, h2, h3⟩, h4⟩, h5⟩
    refine ⟨fun j hj => ?_, h1, h2⟩
    have hq : v.kids[j]? = some v.kids[j] := List.getElem?_eq_getElem hj
    have hk := h4 j _ hq
    unfold kidB at hk
    rw [Bool.and_eq_true, Bool.or_eq_true, decide_eq_true_iff, decide_eq_true_iff, decide_eq_true_iff] at hk
    unfold okK
    rw [getD_of hq]
    refine ⟨by omega, ?_, ?_, fun i hi h1j => ?_⟩
    · rcases hk.2 with h | h
      · subst h
        rw [getD_of hq] at h3
        omega
      · exact h.2
    · constructor
      · intro h
        subst h
        rw [getD_of hq] at h3
        exact h3
      · intro h
        rcases hk.2 with h6 | h6
        · exact h6
        · exact absurd h h6.1
    · subst hi
      have h6 := h5 (i - 1) (by unfold keysL; rw [List.length_append, List.length_map, List.length_map, List.length_drop]; omega)
      unfold cmpI keysL at h6
      rw [List.eq_nil_of_length_eq_zero h2, List.map_nil, List.nil_append, e (i - 1) (by omega), show i - 1 + 1 = (i - 1) + 1 from rfl, e (i - 1 + 1) (by omega), show i - 1 + 1 = i by omega, getD_of hq] at h6
      exact cmp_neg.1 h6
  · rintro ⟨h1, h2, h3⟩
    have h0 := h1 0 (by omega)
    refine ⟨⟨⟨h2, h3, h0.2.2.1.1 rfl⟩, fun j q hq => ?_⟩, fun i hi => ?_⟩
    · have hj := h1 j (List.getElem?_eq_some_iff.1 hq).1
      unfold okK at hj
      rw [getD_of hq] at hj
      unfold kidB
      rw [Bool.and_eq_true, Bool.or_eq_true, decide_eq_true_iff, decide_eq_true_iff, decide_eq_true_iff]
      refine ⟨by omega, ?_⟩
      rcases Nat.eq_zero_or_pos j with hz | hz
      · exact .inl hz
      · exact .inr ⟨fun h => by have := hj.2.2.1.2 h; omega, hj.2.1⟩
    · unfold keysL at hi
      rw [List.eq_nil_of_length_eq_zero h3, List.map_nil, List.nil_append, List.length_map, List.length_drop] at hi
      have h4 := (h1 (i + 2) (by omega)).2.2.2 (i + 1) rfl (by omega)
      unfold cmpI keysL
      rw [List.eq_nil_of_length_eq_zero h3, List.map_nil, List.nil_append, e i (by omega), e (i + 1) (by omega)]
      exact cmp_neg.2 h4
set_option maxHeartbeats 16000000 in
set_option maxRecDepth 100000 in
theorem r6right_any (h : NH) (is : List IH) (ks : List KH) (v : NV) (g : Int) (w : World) (hn : Nd w h is ks v) :
    Calls Tryz.prog 60 #[.int .i64 g, .agg (nhv h)] w fun e w' => e = .returned (.bool (rightN g v)) ∧ Below w.heap.size w w' := by
  obtain ⟨lf, ⟨IA, In, Ic⟩, ⟨KA, Kn, Kc⟩⟩ := h
  have hbi : In ≤ 1000 := hn.bi
  have hbk : Kn ≤ 1000 := hn.bk
  have HLF := Aside0.mk (show lf = v.leaf from hn.leaf)
  have HLL := Aside0.mk (show v.items.length = In ∧ v.kids.length = Kn from ⟨by rw [← hn.its.len]; exact hn.li, by rw [← hn.kds.len]; exact hn.lk⟩)
  have hB0 := (Below.refl _ w).alloc (Nat.le_refl _) (.cells #[.bool lf, .slice IA In Ic, .slice KA Kn Kc] 35)
  have H0 := Aside0.mk (And.intro (heap_alloc_new w (.cells #[.bool lf, .slice IA In Ic, .slice KA Kn Kc] 35)) (And.intro (hn.below hB0) hB0))
  clear hn
  show Calls Tryz.prog 60 #[.int .i64 g, .agg #[.bool lf, .slice IA In Ic, .slice KA Kn Kc]] w _
  by_cases q1 : 1 ≤ g
  case neg =>
    have d1 : decide (g < 1) = true := decide_eq_true (by omega)
    have HRF := Aside0.mk (show rightN g v = false by unfold rightN genB; rw [decide_eq_false (by omega), Bool.false_and])
    clear q1
    go_enter Tryz.func60, Tryz.ntmps60
    go_upto_region 1 with fail
    obtain ⟨w0, hw0⟩ : ∃ X, w.alloc (.cells #[.bool lf, .slice IA In Ic, .slice KA Kn Kc] 35) = X := ⟨_, rfl⟩
    obtain ⟨N, hN⟩ : ∃ X, w.heap.size = X := ⟨_, rfl⟩
    rw [hw0, hN] at H0
    rw [hw0, hN]
    have H0B := Aside0.mk (show Below w.heap.size w w0 by rw [hN]; exact H0.out.2.2)
    clear hB0 hw0 hN
    obtain ⟨y0, y1, y2⟩ := nd_cells H0.out.1
    go_wp2_with fail
    go_ret
    refine ⟨?_, H0B.out⟩
    rw [HRF.out]
    try rfl
  case pos =>
    have d1 : decide (g < 1) = false := decide_eq_false (by omega)
    by_cases q2 : g ≤ 3
    case neg =>
      have d2 : decide (3 < g) = true := decide_eq_true (by omega)
      have HRF := Aside0.mk (show rightN g v = false by unfold rightN genB; rw [decide_eq_false (by omega), Bool.false_and])
      clear q1 q2
      go_enter Tryz.func60, Tryz.ntmps60
      go_upto_region 1 with fail
      obtain ⟨w0, hw0⟩ : ∃ X, w.alloc (.cells #[.bool lf, .slice IA In Ic, .slice KA Kn Kc] 35) = X := ⟨_, rfl⟩
      obtain ⟨N, hN⟩ : ∃ X, w.heap.size = X := ⟨_, rfl⟩
      rw [hw0, hN] at H0
      rw [hw0, hN]
      have H0B := Aside0.mk (show Below w.heap.size w w0 by rw [hN]; exact H0.out.2.2)
      clear hB0 hw0 hN
      obtain ⟨y0, y1, y2⟩ := nd_cells H0.out.1
      go_wp2_with fail
      go_ret
      refine ⟨?_, H0B.out⟩
      rw [HRF.out]
      try rfl
    case pos =>
      have d2 : decide (3 < g) = false := decide_eq_false (by omega)
      have HG := Aside0.mk (And.intro q1 q2)
      clear q1 q2
      have cF : ∀ X, Nd X ⟨lf, (IA, In, Ic), (KA, Kn, Kc)⟩ is ks v → _ := fun X hX => r6fits_any ⟨lf, (IA, In, Ic), (KA, Kn, Kc)⟩ is ks v g X hX HG.out
      simp only [nhv] at cF
      cases hf : fitsN g v with
      | false =>
        have HRF := Aside0.mk (show rightN g v = false by unfold rightN; rw [hf, Bool.and_false, Bool.and_false, Bool.and_false])
        rw [hf] at cF
        clear hf
        go_enter Tryz.func60, Tryz.ntmps60
        go_upto_region 1 with fail
        obtain ⟨w0, hw0⟩ : ∃ X, w.alloc (.cells #[.bool lf, .slice IA In Ic, .slice KA Kn Kc] 35) = X := ⟨_, rfl⟩
        obtain ⟨N, hN⟩ : ∃ X, w.heap.size = X := ⟨_, rfl⟩
        rw [hw0, hN] at H0
        rw [hw0, hN]
        have H0B := Aside0.mk (show Below w.heap.size w w0 by rw [hN]; exact H0.out.2.2)
        clear hB0 hw0 hN
        obtain ⟨y0, y1, y2⟩ := nd_cells H0.out.1
        go_wp2_with (go_at_call 78; refine (cF w0 H0.out.2.1).mono ?_; rintro e w1 ⟨rfl, hB⟩; (have H1 := Aside0.mk (below_then H0B.out H0B.out.size hB)); clear hB)
        go_ret
        refine ⟨?_, H1.out⟩
        rw [HRF.out]
        try rfl
      | true =>
        rw [hf] at cF
        have HF := Aside0.mk hf
        clear hf
        go_enter Tryz.func60, Tryz.ntmps60
        go_upto_region 1 with fail
        obtain ⟨w0, hw0⟩ : ∃ X, w.alloc (.cells #[.bool lf, .slice IA In Ic, .slice KA Kn Kc] 35) = X := ⟨_, rfl⟩
        obtain ⟨N, hN⟩ : ∃ X, w.heap.size = X := ⟨_, rfl⟩
        rw [hw0, hN] at H0
        rw [hw0, hN]
        have H0B := Aside0.mk (show Below w.heap.size w w0 by rw [hN]; exact H0.out.2.2)
        clear hB0 hw0 hN
        obtain ⟨y0, y1, y2⟩ := nd_cells H0.out.1
        go_upto_region 3 with (go_at_call 78; refine (cF w0 H0.out.2.1).mono ?_; rintro e w1 ⟨rfl, hB⟩; (have H1 := Aside0.mk (And.intro ((hB.block _ (Array.getElem?_eq_some_iff.1 H0.out.1).1).trans H0.out.1) (And.intro (H0.out.2.1.below hB) (below_then H0B.out H0B.out.size hB)))); clear hB)
        clear y0 y1 y2 cF d1 d2 H0 H0B
        have H0 := Aside0.mk (And.intro H1.out.1 H1.out.2.1)
        have H0B := Aside0.mk H1.out.2.2
        clear H1
        obtain ⟨y0, y1, y2⟩ := nd_cells H0.out.1
        cases lf with
        | true =>
          have HRL := Aside0.mk (right_leaf HLF.out.symm HG.out HF.out)
          go_wp2_with fail
          clear y0 y1 y2
          go_loopg [5] In (fun gk v5 wr => ∃ (j : Nat), Aside (gk + j = In) ∧ v5 = .int .i64 (j : Int) ∧ Aside0 (Below w1.heap.size w1 wr ∧ ∀ i, i < j → okI g v.items i))
          case atStart => exact ⟨0, rfl, rfl, ⟨Below.refl _ _, fun i hi => absurd hi (by omega)⟩⟩
          case round =>
            obtain ⟨j, hk, rfl, hI⟩ := hrel
            have hjm : j ≤ In := by have := hk.out; omega
            have hrow := Aside0.mk ((hI.out.1.block _ (Array.getElem?_eq_some_iff.1 H0.out.1).1).trans H0.out.1)
            obtain ⟨y0, y1, y2⟩ := nd_cells hrow.out
            rcases Nat.lt_or_ge j In with hlt | hge
            · have d1 : decide ((j : Int) < (In : Int)) = true := decide_eq_true (by omega)
              have hjn : (j : Int) < (In : Int) := by omega
              go_upto_region 7 with fail
              obtain ⟨u0, hu0⟩ : ∃ X, wr.drew = X := ⟨_, rfl⟩
              have HBd := Aside0.mk (show Below wr.heap.size wr u0 by rw [← hu0]; exact below_drew (Below.refl _ _))
              have HNd := Aside0.mk (H0.out.2.below (below_then hI.out.1 hI.out.1.size HBd.out))
              clear y0 y1 y2
              obtain ⟨ad, p, e0, hp, c0, c1, c2, c3⟩ := HNd.out.ri.item HNd.out.li j hlt
              obtain ⟨q, hq, bk, bv, es, er⟩ := HNd.out.its.each j p hp
              simp only at e0
              subst e0
              obtain ⟨⟨pk, pkn, pkc⟩, ⟨pv, pvn, pvc⟩, ps, pr⟩ := p
              obtain ⟨qk, qv, qs, qr⟩ := q
              unfold shv at c0 c1
              unfold Bsh at bk bv
              simp only at c0 c1 c2 c3 bk bv es er
              subst es er
              have HC := Aside0.mk (And.intro (show u0.cell? ⟨N, 1, none⟩ = some (.slice (some ad) In Ic) from (nd_cells ((HBd.out.block _ (Array.getElem?_eq_some_iff.1 hrow.out).1).trans hrow.out)).2.1) (And.intro c0 (And.intro c1 (And.intro c2 c3))))
              have HKL := Aside0.mk (And.intro bk.lim bv.lim)
              obtain ⟨rb, hrb⟩ : ∃ b, rightB g pkn pvn ps pr = b := ⟨_, rfl⟩
              have HRB := Aside0.mk hrb
              have HWB := Aside0.mk (show wrongB g (v.items.getD j ivd) = !rb by
                rw [getD_of hq]
                exact wrong_len rfl bk.len bv.len |>.symm.trans (by rw [hrb]))
              have HQI := Aside0.mk hq
              clear hrb c0 c1 c2 c3 hp hq
              cases rb with
              | false =>
                have HRF := Aside0.mk (show rightN g v = false by
                  cases hr : rightN g v with
                  | false => rfl
                  | true =>
                    have h := ((HRL.out.1 hr).1 j (by rw [HLL.out.1]; exact hlt)).1
                    rw [HWB.out] at h
                    cases h)
                clear bk bv
                have HS := Aside0.mk (show ∀ X : World, Below u0.heap.size u0 X → X.cell? ⟨N, 1, none⟩ = some (.slice (some ad) In Ic) ∧ X.cell? (ad.add (j * 4)) = some (.slice pk pkn pkc) ∧ X.cell? ⟨(ad.add (j * 4)).block, (ad.add (j * 4)).off + 1, none⟩ = some (.slice pv pvn pvc) ∧ X.cell? ⟨(ad.add (j * 4)).block, (ad.add (j * 4)).off + 2, none⟩ = some (.int .i64 ps) ∧ X.cell? ⟨(ad.add (j * 4)).block, (ad.add (j * 4)).off + 3, none⟩ = some (.int .i64 pr) from fun X hX => ⟨cell_below hX HC.out.1, cell_below hX HC.out.2.1, cell_below hX HC.out.2.2.1, cell_below hX HC.out.2.2.2.1, cell_below hX HC.out.2.2.2.2⟩)
                refine wp_region_M (fun j => decide (j < 29)) (fun w' => w'.cell? ⟨N, 1, none⟩ = some (.slice (some ad) In Ic) ∧ w'.cell? (ad.add (j * 4)) = some (.slice pk pkn pkc) ∧ w'.cell? ⟨(ad.add (j * 4)).block, (ad.add (j * 4)).off + 1, none⟩ = some (.slice pv pvn pvc) ∧ w'.cell? ⟨(ad.add (j * 4)).block, (ad.add (j * 4)).off + 2, none⟩ = some (.int .i64 ps) ∧ w'.cell? ⟨(ad.add (j * 4)).block, (ad.add (j * 4)).off + 3, none⟩ = some (.int .i64 pr)) (by kernel_rfl) ?_
                rw [hu0]
                clear hu0
                refine wpAnyM_take (i := 0) (v := ?_) (arr_get rfl) (by kernel_rfl) (by kernel_rfl) (by kernel_rfl) (by kernel_rfl) (by exact fun _ _ _ h => h) (Or.inl ⟨by rfl, ?_⟩) (HS.out _ (Below.refl _ _)) ?_
                rotate_left
                · (intro w' hSw; (try dsimp only at hSw); go_simp; try with_reducible rfl)
                try simp only [Act.put, List.setIfInBounds_toArray, List.set_cons_zero, List.set_cons_succ]
                refine wpAnyM_take (i := 1) (v := ?_) (arr_get rfl) (by kernel_rfl) (by kernel_rfl) (by kernel_rfl) (by kernel_rfl) (by exact fun _ _ _ h => h) (Or.inl ⟨by rfl, ?_⟩) (HS.out _ (Below.refl _ _)) ?_
                rotate_left
                · (intro w' hSw; (try dsimp only at hSw); go_simp; try with_reducible rfl)
                try simp only [Act.put, List.setIfInBounds_toArray, List.set_cons_zero, List.set_cons_succ]
                refine wpAnyM_take (i := 2) (v := ?_) (arr_get rfl) (by kernel_rfl) (by kernel_rfl) (by kernel_rfl) (by kernel_rfl) (by exact fun _ _ _ h => h) (Or.inl ⟨by rfl, ?_⟩) (HS.out _ (Below.refl _ _)) ?_
                rotate_left
                · (intro w' hSw; (try dsimp only at hSw); go_simp; try with_reducible rfl)
                try simp only [Act.put, List.setIfInBounds_toArray, List.set_cons_zero, List.set_cons_succ]
                refine wpAnyM_take (i := 3) (v := ?_) (arr_get rfl) (by kernel_rfl) (by kernel_rfl) (by kernel_rfl) (by kernel_rfl) (by exact fun _ _ _ h => h) (Or.inl ⟨by rfl, ?_⟩) (HS.out _ (Below.refl _ _)) ?_
                rotate_left
                · (intro w' hSw; (try dsimp only at hSw); go_simp; try with_reducible rfl)
                try simp only [Act.put, List.setIfInBounds_toArray, List.set_cons_zero, List.set_cons_succ]
                refine wpAnyM_take (i := 4) (v := ?_) (arr_get rfl) (by kernel_rfl) (by kernel_rfl) (by kernel_rfl) (by kernel_rfl) (by exact fun _ _ _ h => h) (Or.inl ⟨by rfl, ?_⟩) (HS.out _ (Below.refl _ _)) ?_
                rotate_left
                · (intro w' hSw; (try dsimp only at hSw); go_simp; try with_reducible rfl)
                try simp only [Act.put, List.setIfInBounds_toArray, List.set_cons_zero, List.set_cons_succ]
                refine wpAnyM_take (i := 5) (v := ?_) (arr_get rfl) (by kernel_rfl) (by kernel_rfl) (by kernel_rfl) (by kernel_rfl) (by exact fun _ _ _ h => h) (Or.inl ⟨by rfl, ?_⟩) (HS.out _ (Below.refl _ _)) ?_
                rotate_left
                · (intro w' hSw; (try dsimp only at hSw); go_simp; try with_reducible rfl)
                try simp only [Act.put, List.setIfInBounds_toArray, List.set_cons_zero, List.set_cons_succ]
                refine wpAnyM_one (i := 6) (by kernel_rfl) (arr_get rfl) ?_
                go_wp2_with (go_at_call 79; refine (rright_any g pk pkn pkc pv pvn pvc ps pr u0 HKL.out.1 HKL.out.2).mono ?_; rintro e u1 ⟨rfl, hB⟩; rw [HRB.out]; (have H2 := Aside0.mk hB); clear hB)
                refine ⟨HS.out _ H2.out, ?_⟩
                try simp only [Act.put, List.setIfInBounds_toArray, List.set_cons_zero, List.set_cons_succ]
                refine wpAnyM_take (i := 7) (v := ?_) (arr_get rfl) (by kernel_rfl) (by kernel_rfl) (by kernel_rfl) (by kernel_rfl) (by exact fun _ _ _ h => h) (Or.inl ⟨by rfl, ?_⟩) (HS.out _ H2.out) ?_
                rotate_left
                · (intro w' hSw; (try dsimp only at hSw); go_simp; try with_reducible rfl)
                try simp only [Act.put, List.setIfInBounds_toArray, List.set_cons_zero, List.set_cons_succ]
                refine wpAnyM_take (i := 8) (v := ?_) (arr_get rfl) (by kernel_rfl) (by kernel_rfl) (by kernel_rfl) (by kernel_rfl) (by exact fun _ _ _ h => h) (Or.inl ⟨by rfl, ?_⟩) (HS.out _ H2.out) ?_
                rotate_left
                · (intro w' hSw; (try dsimp only at hSw); go_simp; try with_reducible rfl)
                try simp only [Act.put, List.setIfInBounds_toArray, List.set_cons_zero, List.set_cons_succ]
                refine wpAnyM_take (i := 9) (v := undef) (arr_get rfl) (by kernel_rfl) (by kernel_rfl) (by kernel_rfl) (by kernel_rfl) (by exact fun _ _ _ h => h) (Or.inr ⟨by rfl, rfl⟩) (HS.out _ H2.out) ?_
                try simp only [Act.put, List.setIfInBounds_toArray, List.set_cons_zero, List.set_cons_succ]
                refine wpAnyM_take (i := 10) (v := undef) (arr_get rfl) (by kernel_rfl) (by kernel_rfl) (by kernel_rfl) (by kernel_rfl) (by exact fun _ _ _ h => h) (Or.inr ⟨by rfl, rfl⟩) (HS.out _ H2.out) ?_
                try simp only [Act.put, List.setIfInBounds_toArray, List.set_cons_zero, List.set_cons_succ]
                refine wpAnyM_take (i := 11) (v := undef) (arr_get rfl) (by kernel_rfl) (by kernel_rfl) (by kernel_rfl) (by kernel_rfl) (by exact fun _ _ _ h => h) (Or.inr ⟨by rfl, rfl⟩) (HS.out _ H2.out) ?_
                try simp only [Act.put, List.setIfInBounds_toArray, List.set_cons_zero, List.set_cons_succ]
                refine wpAnyM_take (i := 12) (v := undef) (arr_get rfl) (by kernel_rfl) (by kernel_rfl) (by kernel_rfl) (by kernel_rfl) (by exact fun _ _ _ h => h) (Or.inr ⟨by rfl, rfl⟩) (HS.out _ H2.out) ?_
                try simp only [Act.put, List.setIfInBounds_toArray, List.set_cons_zero, List.set_cons_succ]
                refine wpAnyM_take (i := 13) (v := undef) (arr_get rfl) (by kernel_rfl) (by kernel_rfl) (by kernel_rfl) (by kernel_rfl) (by exact fun _ _ _ h => h) (Or.inr ⟨by rfl, rfl⟩) (HS.out _ H2.out) ?_
                try simp only [Act.put, List.setIfInBounds_toArray, List.set_cons_zero, List.set_cons_succ]
                refine wpAnyM_take (i := 14) (v := undef) (arr_get rfl) (by kernel_rfl) (by kernel_rfl) (by kernel_rfl) (by kernel_rfl) (by exact fun _ _ _ h => h) (Or.inr ⟨by rfl, rfl⟩) (HS.out _ H2.out) ?_
                try simp only [Act.put, List.setIfInBounds_toArray, List.set_cons_zero, List.set_cons_succ]
                refine wpAnyM_take (i := 15) (v := undef) (arr_get rfl) (by kernel_rfl) (by kernel_rfl) (by kernel_rfl) (by kernel_rfl) (by exact fun _ _ _ h => h) (Or.inr ⟨by rfl, rfl⟩) (HS.out _ H2.out) ?_
                try simp only [Act.put, List.setIfInBounds_toArray, List.set_cons_zero, List.set_cons_succ]
                refine wpAnyM_take (i := 16) (v := undef) (arr_get rfl) (by kernel_rfl) (by kernel_rfl) (by kernel_rfl) (by kernel_rfl) (by exact fun _ _ _ h => h) (Or.inr ⟨by rfl, rfl⟩) (HS.out _ H2.out) ?_
                try simp only [Act.put, List.setIfInBounds_toArray, List.set_cons_zero, List.set_cons_succ]
                refine wpAnyM_take (i := 17) (v := undef) (arr_get rfl) (by kernel_rfl) (by kernel_rfl) (by kernel_rfl) (by kernel_rfl) (by exact fun _ _ _ h => h) (Or.inr ⟨by rfl, rfl⟩) (HS.out _ H2.out) ?_
                try simp only [Act.put, List.setIfInBounds_toArray, List.set_cons_zero, List.set_cons_succ]
                refine wpAnyM_take (i := 18) (v := undef) (arr_get rfl) (by kernel_rfl) (by kernel_rfl) (by kernel_rfl) (by kernel_rfl) (by exact fun _ _ _ h => h) (Or.inr ⟨by rfl, rfl⟩) (HS.out _ H2.out) ?_
                try simp only [Act.put, List.setIfInBounds_toArray, List.set_cons_zero, List.set_cons_succ]
                refine wpAnyM_take (i := 19) (v := undef) (arr_get rfl) (by kernel_rfl) (by kernel_rfl) (by kernel_rfl) (by kernel_rfl) (by exact fun _ _ _ h => h) (Or.inr ⟨by rfl, rfl⟩) (HS.out _ H2.out) ?_
                try simp only [Act.put, List.setIfInBounds_toArray, List.set_cons_zero, List.set_cons_succ]
                refine wpAnyM_take (i := 20) (v := undef) (arr_get rfl) (by kernel_rfl) (by kernel_rfl) (by kernel_rfl) (by kernel_rfl) (by exact fun _ _ _ h => h) (Or.inr ⟨by rfl, rfl⟩) (HS.out _ H2.out) ?_
                try simp only [Act.put, List.setIfInBounds_toArray, List.set_cons_zero, List.set_cons_succ]
                refine wpAnyM_take (i := 21) (v := undef) (arr_get rfl) (by kernel_rfl) (by kernel_rfl) (by kernel_rfl) (by kernel_rfl) (by exact fun _ _ _ h => h) (Or.inr ⟨by rfl, rfl⟩) (HS.out _ H2.out) ?_
                try simp only [Act.put, List.setIfInBounds_toArray, List.set_cons_zero, List.set_cons_succ]
                refine wpAnyM_take (i := 22) (v := undef) (arr_get rfl) (by kernel_rfl) (by kernel_rfl) (by kernel_rfl) (by kernel_rfl) (by exact fun _ _ _ h => h) (Or.inr ⟨by rfl, rfl⟩) (HS.out _ H2.out) ?_
                try simp only [Act.put, List.setIfInBounds_toArray, List.set_cons_zero, List.set_cons_succ]
                refine wpAnyM_take (i := 23) (v := undef) (arr_get rfl) (by kernel_rfl) (by kernel_rfl) (by kernel_rfl) (by kernel_rfl) (by exact fun _ _ _ h => h) (Or.inr ⟨by rfl, rfl⟩) (HS.out _ H2.out) ?_
                try simp only [Act.put, List.setIfInBounds_toArray, List.set_cons_zero, List.set_cons_succ]
                refine wpAnyM_take (i := 24) (v := undef) (arr_get rfl) (by kernel_rfl) (by kernel_rfl) (by kernel_rfl) (by kernel_rfl) (by exact fun _ _ _ h => h) (Or.inr ⟨by rfl, rfl⟩) (HS.out _ H2.out) ?_
                try simp only [Act.put, List.setIfInBounds_toArray, List.set_cons_zero, List.set_cons_succ]
                refine wpAnyM_take (i := 25) (v := undef) (arr_get rfl) (by kernel_rfl) (by kernel_rfl) (by kernel_rfl) (by kernel_rfl) (by exact fun _ _ _ h => h) (Or.inr ⟨by rfl, rfl⟩) (HS.out _ H2.out) ?_
                try simp only [Act.put, List.setIfInBounds_toArray, List.set_cons_zero, List.set_cons_succ]
                refine wpAnyM_take (i := 26) (v := undef) (arr_get rfl) (by kernel_rfl) (by kernel_rfl) (by kernel_rfl) (by kernel_rfl) (by exact fun _ _ _ h => h) (Or.inr ⟨by rfl, rfl⟩) (HS.out _ H2.out) ?_
                try simp only [Act.put, List.setIfInBounds_toArray, List.set_cons_zero, List.set_cons_succ]
                refine wpAnyM_take (i := 27) (v := undef) (arr_get rfl) (by kernel_rfl) (by kernel_rfl) (by kernel_rfl) (by kernel_rfl) (by exact fun _ _ _ h => h) (Or.inr ⟨by rfl, rfl⟩) (HS.out _ H2.out) ?_
                try simp only [Act.put, List.setIfInBounds_toArray, List.set_cons_zero, List.set_cons_succ]
                refine wpAnyM_take (i := 28) (v := ?_) (arr_get rfl) (by kernel_rfl) (by kernel_rfl) (by kernel_rfl) (by kernel_rfl) (by exact fun _ _ _ h => h) (Or.inl ⟨by rfl, ?_⟩) (HS.out _ H2.out) ?_
                rotate_left
                · (intro w' hSw; (try dsimp only at hSw); go_simp; try with_reducible rfl)
                try simp only [Act.put, List.setIfInBounds_toArray, List.set_cons_zero, List.set_cons_succ]
                refine wpAnyM_done (by kernel_rfl) ?_ _
                go_wp2_with fail
                go_ret
                refine ⟨?_, below_then (below_then H0B.out H0B.out.size hI.out.1) (by have := hI.out.1.size; have := H0B.out.size; omega) (below_then HBd.out HBd.out.size H2.out)⟩
                rw [HRF.out]
                try rfl
              | true =>
                rcases Nat.eq_zero_or_pos j with hj0 | hj0
                · have dg : decide (0 < (j : Int)) = false := decide_eq_false (by omega)
                  have dj0 : decide (0 < j) = false := decide_eq_false (by omega)
                  have HOK := Aside0.mk (show okI g v.items j from ⟨HWB.out, fun i hi => absurd hi (by omega)⟩)
                  clear bk bv hj0
                  have HS := Aside0.mk (show ∀ X : World, Below u0.heap.size u0 X → X.cell? ⟨N, 1, none⟩ = some (.slice (some ad) In Ic) ∧ X.cell? (ad.add (j * 4)) = some (.slice pk pkn pkc) ∧ X.cell? ⟨(ad.add (j * 4)).block, (ad.add (j * 4)).off + 1, none⟩ = some (.slice pv pvn pvc) ∧ X.cell? ⟨(ad.add (j * 4)).block, (ad.add (j * 4)).off + 2, none⟩ = some (.int .i64 ps) ∧ X.cell? ⟨(ad.add (j * 4)).block, (ad.add (j * 4)).off + 3, none⟩ = some (.int .i64 pr) from fun X hX => ⟨cell_below hX HC.out.1, cell_below hX HC.out.2.1, cell_below hX HC.out.2.2.1, cell_below hX HC.out.2.2.2.1, cell_below hX HC.out.2.2.2.2⟩)
                  refine wp_region_M (fun j => decide (j < 29)) (fun w' => w'.cell? ⟨N, 1, none⟩ = some (.slice (some ad) In Ic) ∧ w'.cell? (ad.add (j * 4)) = some (.slice pk pkn pkc) ∧ w'.cell? ⟨(ad.add (j * 4)).block, (ad.add (j * 4)).off + 1, none⟩ = some (.slice pv pvn pvc) ∧ w'.cell? ⟨(ad.add (j * 4)).block, (ad.add (j * 4)).off + 2, none⟩ = some (.int .i64 ps) ∧ w'.cell? ⟨(ad.add (j * 4)).block, (ad.add (j * 4)).off + 3, none⟩ = some (.int .i64 pr)) (by kernel_rfl) ?_
                  rw [hu0]
                  clear hu0
                  refine wpAnyM_take (i := 0) (v := ?_) (arr_get rfl) (by kernel_rfl) (by kernel_rfl) (by kernel_rfl) (by kernel_rfl) (by exact fun _ _ _ h => h) (Or.inl ⟨by rfl, ?_⟩) (HS.out _ (Below.refl _ _)) ?_
                  rotate_left
                  · (intro w' hSw; (try dsimp only at hSw); go_simp; try with_reducible rfl)
                  try simp only [Act.put, List.setIfInBounds_toArray, List.set_cons_zero, List.set_cons_succ]
                  refine wpAnyM_take (i := 1) (v := ?_) (arr_get rfl) (by kernel_rfl) (by kernel_rfl) (by kernel_rfl) (by kernel_rfl) (by exact fun _ _ _ h => h) (Or.inl ⟨by rfl, ?_⟩) (HS.out _ (Below.refl _ _)) ?_
                  rotate_left
                  · (intro w' hSw; (try dsimp only at hSw); go_simp; try with_reducible rfl)
                  try simp only [Act.put, List.setIfInBounds_toArray, List.set_cons_zero, List.set_cons_succ]
                  refine wpAnyM_take (i := 2) (v := ?_) (arr_get rfl) (by kernel_rfl) (by kernel_rfl) (by kernel_rfl) (by kernel_rfl) (by exact fun _ _ _ h => h) (Or.inl ⟨by rfl, ?_⟩) (HS.out _ (Below.refl _ _)) ?_
                  rotate_left
                  · (intro w' hSw; (try dsimp only at hSw); go_simp; try with_reducible rfl)
                  try simp only [Act.put, List.setIfInBounds_toArray, List.set_cons_zero, List.set_cons_succ]
                  refine wpAnyM_take (i := 3) (v := ?_) (arr_get rfl) (by kernel_rfl) (by kernel_rfl) (by kernel_rfl) (by kernel_rfl) (by exact fun _ _ _ h => h) (Or.inl ⟨by rfl, ?_⟩) (HS.out _ (Below.refl _ _)) ?_
                  rotate_left
                  · (intro w' hSw; (try dsimp only at hSw); go_simp; try with_reducible rfl)
                  try simp only [Act.put, List.setIfInBounds_toArray, List.set_cons_zero, List.set_cons_succ]
                  refine wpAnyM_take (i := 4) (v := ?_) (arr_get rfl) (by kernel_rfl) (by kernel_rfl) (by kernel_rfl) (by kernel_rfl) (by exact fun _ _ _ h => h) (Or.inl ⟨by rfl, ?_⟩) (HS.out _ (Below.refl _ _)) ?_
                  rotate_left
                  · (intro w' hSw; (try dsimp only at hSw); go_simp; try with_reducible rfl)
                  try simp only [Act.put, List.setIfInBounds_toArray, List.set_cons_zero, List.set_cons_succ]
                  refine wpAnyM_take (i := 5) (v := ?_) (arr_get rfl) (by kernel_rfl) (by kernel_rfl) (by kernel_rfl) (by kernel_rfl) (by exact fun _ _ _ h => h) (Or.inl ⟨by rfl, ?_⟩) (HS.out _ (Below.refl _ _)) ?_
                  rotate_left
                  · (intro w' hSw; (try dsimp only at hSw); go_simp; try with_reducible rfl)
                  try simp only [Act.put, List.setIfInBounds_toArray, List.set_cons_zero, List.set_cons_succ]
                  refine wpAnyM_one (i := 6) (by kernel_rfl) (arr_get rfl) ?_
                  go_wp2_with (go_at_call 79; refine (rright_any g pk pkn pkc pv pvn pvc ps pr u0 HKL.out.1 HKL.out.2).mono ?_; rintro e u1 ⟨rfl, hB⟩; rw [HRB.out]; (have H2 := Aside0.mk hB); clear hB)
                  refine ⟨HS.out _ H2.out, ?_⟩
                  try simp only [Act.put, List.setIfInBounds_toArray, List.set_cons_zero, List.set_cons_succ]
                  refine wpAnyM_take (i := 7) (v := ?_) (arr_get rfl) (by kernel_rfl) (by kernel_rfl) (by kernel_rfl) (by kernel_rfl) (by exact fun _ _ _ h => h) (Or.inl ⟨by rfl, ?_⟩) (HS.out _ H2.out) ?_
                  rotate_left
                  · (intro w' hSw; (try dsimp only at hSw); go_simp; try with_reducible rfl)
                  try simp only [Act.put, List.setIfInBounds_toArray, List.set_cons_zero, List.set_cons_succ]
                  refine wpAnyM_take (i := 8) (v := ?_) (arr_get rfl) (by kernel_rfl) (by kernel_rfl) (by kernel_rfl) (by kernel_rfl) (by exact fun _ _ _ h => h) (Or.inl ⟨by rfl, ?_⟩) (HS.out _ H2.out) ?_
                  rotate_left
                  · (intro w' hSw; (try dsimp only at hSw); go_simp; try with_reducible rfl)
                  try simp only [Act.put, List.setIfInBounds_toArray, List.set_cons_zero, List.set_cons_succ]
                  refine wpAnyM_take (i := 9) (v := ?_) (arr_get rfl) (by kernel_rfl) (by kernel_rfl) (by kernel_rfl) (by kernel_rfl) (by exact fun _ _ _ h => h) (Or.inl ⟨by rfl, ?_⟩) (HS.out _ H2.out) ?_
                  rotate_left
                  · (intro w' hSw; (try dsimp only at hSw); go_simp; try with_reducible rfl)
                  try simp only [Act.put, List.setIfInBounds_toArray, List.set_cons_zero, List.set_cons_succ]
                  refine wpAnyM_take (i := 10) (v := ?_) (arr_get rfl) (by kernel_rfl) (by kernel_rfl) (by kernel_rfl) (by kernel_rfl) (by exact fun _ _ _ h => h) (Or.inl ⟨by rfl, ?_⟩) (HS.out _ H2.out) ?_
                  rotate_left
                  · (intro w' hSw; (try dsimp only at hSw); go_simp; try with_reducible rfl)
                  try simp only [Act.put, List.setIfInBounds_toArray, List.set_cons_zero, List.set_cons_succ]
                  refine wpAnyM_take (i := 11) (v := ?_) (arr_get rfl) (by kernel_rfl) (by kernel_rfl) (by kernel_rfl) (by kernel_rfl) (by exact fun _ _ _ h => h) (Or.inl ⟨by rfl, ?_⟩) (HS.out _ H2.out) ?_
                  rotate_left
                  · (intro w' hSw; (try dsimp only at hSw); go_simp; try with_reducible rfl)
                  try simp only [Act.put, List.setIfInBounds_toArray, List.set_cons_zero, List.set_cons_succ]
                  refine wpAnyM_take (i := 12) (v := undef) (arr_get rfl) (by kernel_rfl) (by kernel_rfl) (by kernel_rfl) (by kernel_rfl) (by exact fun _ _ _ h => h) (Or.inr ⟨by rfl, rfl⟩) (HS.out _ H2.out) ?_
                  try simp only [Act.put, List.setIfInBounds_toArray, List.set_cons_zero, List.set_cons_succ]
                  refine wpAnyM_take (i := 13) (v := undef) (arr_get rfl) (by kernel_rfl) (by kernel_rfl) (by kernel_rfl) (by kernel_rfl) (by exact fun _ _ _ h => h) (Or.inr ⟨by rfl, rfl⟩) (HS.out _ H2.out) ?_
                  try simp only [Act.put, List.setIfInBounds_toArray, List.set_cons_zero, List.set_cons_succ]
                  refine wpAnyM_take (i := 14) (v := undef) (arr_get rfl) (by kernel_rfl) (by kernel_rfl) (by kernel_rfl) (by kernel_rfl) (by exact fun _ _ _ h => h) (Or.inr ⟨by rfl, rfl⟩) (HS.out _ H2.out) ?_
                  try simp only [Act.put, List.setIfInBounds_toArray, List.set_cons_zero, List.set_cons_succ]
                  refine wpAnyM_take (i := 15) (v := undef) (arr_get rfl) (by kernel_rfl) (by kernel_rfl) (by kernel_rfl) (by kernel_rfl) (by exact fun _ _ _ h => h) (Or.inr ⟨by rfl, rfl⟩) (HS.out _ H2.out) ?_
                  try simp only [Act.put, List.setIfInBounds_toArray, List.set_cons_zero, List.set_cons_succ]
                  refine wpAnyM_take (i := 16) (v := undef) (arr_get rfl) (by kernel_rfl) (by kernel_rfl) (by kernel_rfl) (by kernel_rfl) (by exact fun _ _ _ h => h) (Or.inr ⟨by rfl, rfl⟩) (HS.out _ H2.out) ?_
                  try simp only [Act.put, List.setIfInBounds_toArray, List.set_cons_zero, List.set_cons_succ]
                  refine wpAnyM_take (i := 17) (v := undef) (arr_get rfl) (by kernel_rfl) (by kernel_rfl) (by kernel_rfl) (by kernel_rfl) (by exact fun _ _ _ h => h) (Or.inr ⟨by rfl, rfl⟩) (HS.out _ H2.out) ?_
                  try simp only [Act.put, List.setIfInBounds_toArray, List.set_cons_zero, List.set_cons_succ]
                  refine wpAnyM_take (i := 18) (v := undef) (arr_get rfl) (by kernel_rfl) (by kernel_rfl) (by kernel_rfl) (by kernel_rfl) (by exact fun _ _ _ h => h) (Or.inr ⟨by rfl, rfl⟩) (HS.out _ H2.out) ?_
                  try simp only [Act.put, List.setIfInBounds_toArray, List.set_cons_zero, List.set_cons_succ]
                  refine wpAnyM_take (i := 19) (v := undef) (arr_get rfl) (by kernel_rfl) (by kernel_rfl) (by kernel_rfl) (by kernel_rfl) (by exact fun _ _ _ h => h) (Or.inr ⟨by rfl, rfl⟩) (HS.out _ H2.out) ?_
                  try simp only [Act.put, List.setIfInBounds_toArray, List.set_cons_zero, List.set_cons_succ]
                  refine wpAnyM_take (i := 20) (v := undef) (arr_get rfl) (by kernel_rfl) (by kernel_rfl) (by kernel_rfl) (by kernel_rfl) (by exact fun _ _ _ h => h) (Or.inr ⟨by rfl, rfl⟩) (HS.out _ H2.out) ?_
                  try simp only [Act.put, List.setIfInBounds_toArray, List.set_cons_zero, List.set_cons_succ]
                  refine wpAnyM_take (i := 21) (v := undef) (arr_get rfl) (by kernel_rfl) (by kernel_rfl) (by kernel_rfl) (by kernel_rfl) (by exact fun _ _ _ h => h) (Or.inr ⟨by rfl, rfl⟩) (HS.out _ H2.out) ?_
                  try simp only [Act.put, List.setIfInBounds_toArray, List.set_cons_zero, List.set_cons_succ]
                  refine wpAnyM_take (i := 22) (v := undef) (arr_get rfl) (by kernel_rfl) (by kernel_rfl) (by kernel_rfl) (by kernel_rfl) (by exact fun _ _ _ h => h) (Or.inr ⟨by rfl, rfl⟩) (HS.out _ H2.out) ?_
                  try simp only [Act.put, List.setIfInBounds_toArray, List.set_cons_zero, List.set_cons_succ]
                  refine wpAnyM_take (i := 23) (v := undef) (arr_get rfl) (by kernel_rfl) (by kernel_rfl) (by kernel_rfl) (by kernel_rfl) (by exact fun _ _ _ h => h) (Or.inr ⟨by rfl, rfl⟩) (HS.out _ H2.out) ?_
                  try simp only [Act.put, List.setIfInBounds_toArray, List.set_cons_zero, List.set_cons_succ]
                  refine wpAnyM_take (i := 24) (v := undef) (arr_get rfl) (by kernel_rfl) (by kernel_rfl) (by kernel_rfl) (by kernel_rfl) (by exact fun _ _ _ h => h) (Or.inr ⟨by rfl, rfl⟩) (HS.out _ H2.out) ?_
                  try simp only [Act.put, List.setIfInBounds_toArray, List.set_cons_zero, List.set_cons_succ]
                  refine wpAnyM_take (i := 25) (v := undef) (arr_get rfl) (by kernel_rfl) (by kernel_rfl) (by kernel_rfl) (by kernel_rfl) (by exact fun _ _ _ h => h) (Or.inr ⟨by rfl, rfl⟩) (HS.out _ H2.out) ?_
                  try simp only [Act.put, List.setIfInBounds_toArray, List.set_cons_zero, List.set_cons_succ]
                  refine wpAnyM_take (i := 26) (v := undef) (arr_get rfl) (by kernel_rfl) (by kernel_rfl) (by kernel_rfl) (by kernel_rfl) (by exact fun _ _ _ h => h) (Or.inr ⟨by rfl, rfl⟩) (HS.out _ H2.out) ?_
                  try simp only [Act.put, List.setIfInBounds_toArray, List.set_cons_zero, List.set_cons_succ]
                  refine wpAnyM_take (i := 27) (v := ?_) (arr_get rfl) (by kernel_rfl) (by kernel_rfl) (by kernel_rfl) (by kernel_rfl) (by exact fun _ _ _ h => h) (Or.inl ⟨by rfl, ?_⟩) (HS.out _ H2.out) ?_
                  rotate_left
                  · (intro w' hSw; (try dsimp only at hSw); go_simp; try with_reducible rfl)
                  try simp only [Act.put, List.setIfInBounds_toArray, List.set_cons_zero, List.set_cons_succ]
                  refine wpAnyM_take (i := 28) (v := ?_) (arr_get rfl) (by kernel_rfl) (by kernel_rfl) (by kernel_rfl) (by kernel_rfl) (by exact fun _ _ _ h => h) (Or.inl ⟨by rfl, ?_⟩) (HS.out _ H2.out) ?_
                  rotate_left
                  · (intro w' hSw; (try dsimp only at hSw); go_simp; try with_reducible rfl)
                  try simp only [Act.put, List.setIfInBounds_toArray, List.set_cons_zero, List.set_cons_succ]
                  refine wpAnyM_done (by kernel_rfl) ?_ _
                  go_wp2_with fail
                  go_roundg (In - (j + 1))
                  case measure => have := hk.out; omega
                  case rel => exact ⟨j + 1, (by show In - (j + 1) + (j + 1) = In; omega), by go_num, ⟨below_then hI.out.1 hI.out.1.size (below_then HBd.out HBd.out.size H2.out), fun i2 hi2 => by
                      rcases Nat.lt_or_ge i2 j with q | q
                      · exact hI.out.2 i2 q
                      · obtain rfl : i2 = j := by omega
                        exact HOK.out⟩⟩
                · obtain ⟨i, hi⟩ : ∃ i, j = i + 1 := ⟨j - 1, by omega⟩
                  have HJ := Aside0.mk hi
                  have hin : i < In := by omega
                  have hin2 : (i : Int) < (In : Int) := by omega
                  have dg : decide (0 < (j : Int)) = true := decide_eq_true (by omega)
                  have dj0 : decide (0 < j) = true := decide_eq_true (by omega)
                  have dw : IntKind.i64.wrap (i : Int) = (i : Int) := IntWalk.i64_in _ (by omega)
                  have dw2 : (j : Int) - 1 = (i : Int) := by omega
                  obtain ⟨ad2, p2, e2, hp2, f0, _, _, _⟩ := HNd.out.ri.item HNd.out.li i hin
                  obtain ⟨q2, hq2, bk2, _, _, _⟩ := HNd.out.its.each i p2 hp2
                  simp only at e2
                  injection e2 with e2
                  subst e2
                  obtain ⟨⟨ok, okn, okc⟩, ov, os, orr⟩ := p2
                  obtain ⟨oq, oqv, oqs, oqr⟩ := q2
                  unfold shv at f0
                  unfold Bsh at bk2
                  simp only at f0 bk2
                  have HD := Aside0.mk f0
                  obtain ⟨cm, hcm⟩ : ∃ x, Lib.compareBytes oq qk = x := ⟨_, rfl⟩
                  have HCM := Aside0.mk hcm
                  have HQ := Aside0.mk (And.intro bk (And.intro bk2 (Below.refl u0.heap.size u0)))
                  have HCV := Aside0.mk (show Lib.compareBytes (v.items.getD i ivd).k (v.items.getD j ivd).k = cm by rw [getD_of hq2, getD_of HQI.out]; exact hcm)
                  clear bk bv bk2 hp2 hq2 f0 hcm hi hj0
                  by_cases qc : cm = -1
                  case neg =>
                    have dc : (cm != -1) = true := bne_iff_ne.2 qc
                    have HRF := Aside0.mk (show rightN g v = false by
                      cases hr : rightN g v with
                      | false => rfl
                      | true =>
                        have h := ((HRL.out.1 hr).1 j (by rw [HLL.out.1]; exact hlt)).2 i HJ.out
                        rw [HCV.out] at h
                        exact absurd h qc)
                    clear qc
                    have HS := Aside0.mk (show ∀ X : World, Below u0.heap.size u0 X → X.cell? ⟨N, 1, none⟩ = some (.slice (some ad) In Ic) ∧ X.cell? (ad.add (j * 4)) = some (.slice pk pkn pkc) ∧ X.cell? ⟨(ad.add (j * 4)).block, (ad.add (j * 4)).off + 1, none⟩ = some (.slice pv pvn pvc) ∧ X.cell? ⟨(ad.add (j * 4)).block, (ad.add (j * 4)).off + 2, none⟩ = some (.int .i64 ps) ∧ X.cell? ⟨(ad.add (j * 4)).block, (ad.add (j * 4)).off + 3, none⟩ = some (.int .i64 pr) ∧ X.cell? (ad.add (i * 4)) = some (.slice ok okn okc) from fun X hX => ⟨cell_below hX HC.out.1, cell_below hX HC.out.2.1, cell_below hX HC.out.2.2.1, cell_below hX HC.out.2.2.2.1, cell_below hX HC.out.2.2.2.2, cell_below hX HD.out⟩)
                    refine wp_region_M (fun j => decide (j < 29)) (fun w' => w'.cell? ⟨N, 1, none⟩ = some (.slice (some ad) In Ic) ∧ w'.cell? (ad.add (j * 4)) = some (.slice pk pkn pkc) ∧ w'.cell? ⟨(ad.add (j * 4)).block, (ad.add (j * 4)).off + 1, none⟩ = some (.slice pv pvn pvc) ∧ w'.cell? ⟨(ad.add (j * 4)).block, (ad.add (j * 4)).off + 2, none⟩ = some (.int .i64 ps) ∧ w'.cell? ⟨(ad.add (j * 4)).block, (ad.add (j * 4)).off + 3, none⟩ = some (.int .i64 pr) ∧ w'.cell? (ad.add (i * 4)) = some (.slice ok okn okc)) (by kernel_rfl) ?_
                    rw [hu0]
                    clear hu0
                    refine wpAnyM_take (i := 0) (v := ?_) (arr_get rfl) (by kernel_rfl) (by kernel_rfl) (by kernel_rfl) (by kernel_rfl) (by exact fun _ _ _ h => h) (Or.inl ⟨by rfl, ?_⟩) (HS.out _ (Below.refl _ _)) ?_
                    rotate_left
                    · (intro w' hSw; (try dsimp only at hSw); go_simp; try with_reducible rfl)
                    try simp only [Act.put, List.setIfInBounds_toArray, List.set_cons_zero, List.set_cons_succ]
                    refine wpAnyM_take (i := 1) (v := ?_) (arr_get rfl) (by kernel_rfl) (by kernel_rfl) (by kernel_rfl) (by kernel_rfl) (by exact fun _ _ _ h => h) (Or.inl ⟨by rfl, ?_⟩) (HS.out _ (Below.refl _ _)) ?_
                    rotate_left
                    · (intro w' hSw; (try dsimp only at hSw); go_simp; try with_reducible rfl)
                    try simp only [Act.put, List.setIfInBounds_toArray, List.set_cons_zero, List.set_cons_succ]
                    refine wpAnyM_take (i := 2) (v := ?_) (arr_get rfl) (by kernel_rfl) (by kernel_rfl) (by kernel_rfl) (by kernel_rfl) (by exact fun _ _ _ h => h) (Or.inl ⟨by rfl, ?_⟩) (HS.out _ (Below.refl _ _)) ?_
                    rotate_left
                    · (intro w' hSw; (try dsimp only at hSw); go_simp; try with_reducible rfl)
                    try simp only [Act.put, List.setIfInBounds_toArray, List.set_cons_zero, List.set_cons_succ]
                    refine wpAnyM_take (i := 3) (v := ?_) (arr_get rfl) (by kernel_rfl) (by kernel_rfl) (by kernel_rfl) (by kernel_rfl) (by exact fun _ _ _ h => h) (Or.inl ⟨by rfl, ?_⟩) (HS.out _ (Below.refl _ _)) ?_
                    rotate_left
                    · (intro w' hSw; (try dsimp only at hSw); go_simp; try with_reducible rfl)
                    try simp only [Act.put, List.setIfInBounds_toArray, List.set_cons_zero, List.set_cons_succ]
                    refine wpAnyM_take (i := 4) (v := ?_) (arr_get rfl) (by kernel_rfl) (by kernel_rfl) (by kernel_rfl) (by kernel_rfl) (by exact fun _ _ _ h => h) (Or.inl ⟨by rfl, ?_⟩) (HS.out _ (Below.refl _ _)) ?_
                    rotate_left
                    · (intro w' hSw; (try dsimp only at hSw); go_simp; try with_reducible rfl)
                    try simp only [Act.put, List.setIfInBounds_toArray, List.set_cons_zero, List.set_cons_succ]
                    refine wpAnyM_take (i := 5) (v := ?_) (arr_get rfl) (by kernel_rfl) (by kernel_rfl) (by kernel_rfl) (by kernel_rfl) (by exact fun _ _ _ h => h) (Or.inl ⟨by rfl, ?_⟩) (HS.out _ (Below.refl _ _)) ?_
                    rotate_left
                    · (intro w' hSw; (try dsimp only at hSw); go_simp; try with_reducible rfl)
                    try simp only [Act.put, List.setIfInBounds_toArray, List.set_cons_zero, List.set_cons_succ]
                    refine wpAnyM_one (i := 6) (by kernel_rfl) (arr_get rfl) ?_
                    go_wp2_with (go_at_call 79; refine (rright_any g pk pkn pkc pv pvn pvc ps pr u0 HKL.out.1 HKL.out.2).mono ?_; rintro e u1 ⟨rfl, hB⟩; rw [HRB.out]; (have H2 := Aside0.mk hB); clear hB)
                    refine ⟨HS.out _ H2.out, ?_⟩
                    try simp only [Act.put, List.setIfInBounds_toArray, List.set_cons_zero, List.set_cons_succ]
                    refine wpAnyM_take (i := 7) (v := ?_) (arr_get rfl) (by kernel_rfl) (by kernel_rfl) (by kernel_rfl) (by kernel_rfl) (by exact fun _ _ _ h => h) (Or.inl ⟨by rfl, ?_⟩) (HS.out _ H2.out) ?_
                    rotate_left
                    · (intro w' hSw; (try dsimp only at hSw); go_simp; try with_reducible rfl)
                    try simp only [Act.put, List.setIfInBounds_toArray, List.set_cons_zero, List.set_cons_succ]
                    refine wpAnyM_take (i := 8) (v := ?_) (arr_get rfl) (by kernel_rfl) (by kernel_rfl) (by kernel_rfl) (by kernel_rfl) (by exact fun _ _ _ h => h) (Or.inl ⟨by rfl, ?_⟩) (HS.out _ H2.out) ?_
                    rotate_left
                    · (intro w' hSw; (try dsimp only at hSw); go_simp; try with_reducible rfl)
                    try simp only [Act.put, List.setIfInBounds_toArray, List.set_cons_zero, List.set_cons_succ]
                    refine wpAnyM_take (i := 9) (v := ?_) (arr_get rfl) (by kernel_rfl) (by kernel_rfl) (by kernel_rfl) (by kernel_rfl) (by exact fun _ _ _ h => h) (Or.inl ⟨by rfl, ?_⟩) (HS.out _ H2.out) ?_
                    rotate_left
                    · (intro w' hSw; (try dsimp only at hSw); go_simp; try with_reducible rfl)
                    try simp only [Act.put, List.setIfInBounds_toArray, List.set_cons_zero, List.set_cons_succ]
                    refine wpAnyM_take (i := 10) (v := ?_) (arr_get rfl) (by kernel_rfl) (by kernel_rfl) (by kernel_rfl) (by kernel_rfl) (by exact fun _ _ _ h => h) (Or.inl ⟨by rfl, ?_⟩) (HS.out _ H2.out) ?_
                    rotate_left
                    · (intro w' hSw; (try dsimp only at hSw); go_simp; try with_reducible rfl)
                    try simp only [Act.put, List.setIfInBounds_toArray, List.set_cons_zero, List.set_cons_succ]
                    refine wpAnyM_take (i := 11) (v := ?_) (arr_get rfl) (by kernel_rfl) (by kernel_rfl) (by kernel_rfl) (by kernel_rfl) (by exact fun _ _ _ h => h) (Or.inl ⟨by rfl, ?_⟩) (HS.out _ H2.out) ?_
                    rotate_left
                    · (intro w' hSw; (try dsimp only at hSw); go_simp; try with_reducible rfl)
                    try simp only [Act.put, List.setIfInBounds_toArray, List.set_cons_zero, List.set_cons_succ]
                    refine wpAnyM_take (i := 12) (v := ?_) (arr_get rfl) (by kernel_rfl) (by kernel_rfl) (by kernel_rfl) (by kernel_rfl) (by exact fun _ _ _ h => h) (Or.inl ⟨by rfl, ?_⟩) (HS.out _ H2.out) ?_
                    rotate_left
                    · (intro w' hSw; (try dsimp only at hSw); go_simp; try with_reducible rfl)
                    try simp only [Act.put, List.setIfInBounds_toArray, List.set_cons_zero, List.set_cons_succ]
                    refine wpAnyM_take (i := 13) (v := ?_) (arr_get rfl) (by kernel_rfl) (by kernel_rfl) (by kernel_rfl) (by kernel_rfl) (by exact fun _ _ _ h => h) (Or.inl ⟨by rfl, ?_⟩) (HS.out _ H2.out) ?_
                    rotate_left
                    · (intro w' hSw; (try dsimp only at hSw); go_simp; try with_reducible rfl)
                    try simp only [Act.put, List.setIfInBounds_toArray, List.set_cons_zero, List.set_cons_succ]
                    refine wpAnyM_take (i := 14) (v := ?_) (arr_get rfl) (by kernel_rfl) (by kernel_rfl) (by kernel_rfl) (by kernel_rfl) (by exact fun _ _ _ h => h) (Or.inl ⟨by rfl, ?_⟩) (HS.out _ H2.out) ?_
                    rotate_left
                    · (intro w' hSw; (try dsimp only at hSw); go_simp; try with_reducible rfl)
                    try simp only [Act.put, List.setIfInBounds_toArray, List.set_cons_zero, List.set_cons_succ]
                    refine wpAnyM_take (i := 15) (v := ?_) (arr_get rfl) (by kernel_rfl) (by kernel_rfl) (by kernel_rfl) (by kernel_rfl) (by exact fun _ _ _ h => h) (Or.inl ⟨by rfl, ?_⟩) (HS.out _ H2.out) ?_
                    rotate_left
                    · (intro w' hSw; (try dsimp only at hSw); go_simp; try with_reducible rfl)
                    try simp only [Act.put, List.setIfInBounds_toArray, List.set_cons_zero, List.set_cons_succ]
                    refine wpAnyM_take (i := 16) (v := ?_) (arr_get rfl) (by kernel_rfl) (by kernel_rfl) (by kernel_rfl) (by kernel_rfl) (by exact fun _ _ _ h => h) (Or.inl ⟨by rfl, ?_⟩) (HS.out _ H2.out) ?_
                    rotate_left
                    · (intro w' hSw; (try dsimp only at hSw); go_simp; try with_reducible rfl)
                    try simp only [Act.put, List.setIfInBounds_toArray, List.set_cons_zero, List.set_cons_succ]
                    refine wpAnyM_take (i := 17) (v := ?_) (arr_get rfl) (by kernel_rfl) (by kernel_rfl) (by kernel_rfl) (by kernel_rfl) (by exact fun _ _ _ h => h) (Or.inl ⟨by rfl, ?_⟩) (HS.out _ H2.out) ?_
                    rotate_left
                    · (intro w' hSw; (try dsimp only at hSw); go_simp; try with_reducible rfl)
                    try simp only [Act.put, List.setIfInBounds_toArray, List.set_cons_zero, List.set_cons_succ]
                    refine wpAnyM_take (i := 18) (v := ?_) (arr_get rfl) (by kernel_rfl) (by kernel_rfl) (by kernel_rfl) (by kernel_rfl) (by exact fun _ _ _ h => h) (Or.inl ⟨by rfl, ?_⟩) (HS.out _ H2.out) ?_
                    rotate_left
                    · (intro w' hSw; (try dsimp only at hSw); go_simp; try with_reducible rfl)
                    try simp only [Act.put, List.setIfInBounds_toArray, List.set_cons_zero, List.set_cons_succ]
                    refine wpAnyM_take (i := 19) (v := ?_) (arr_get rfl) (by kernel_rfl) (by kernel_rfl) (by kernel_rfl) (by kernel_rfl) (by exact fun _ _ _ h => h) (Or.inl ⟨by rfl, ?_⟩) (HS.out _ H2.out) ?_
                    rotate_left
                    · (intro w' hSw; (try dsimp only at hSw); go_simp; try with_reducible rfl)
                    try simp only [Act.put, List.setIfInBounds_toArray, List.set_cons_zero, List.set_cons_succ]
                    refine wpAnyM_take (i := 20) (v := ?_) (arr_get rfl) (by kernel_rfl) (by kernel_rfl) (by kernel_rfl) (by kernel_rfl) (by exact fun _ _ _ h => h) (Or.inl ⟨by rfl, ?_⟩) (HS.out _ H2.out) ?_
                    rotate_left
                    · (intro w' hSw; (try dsimp only at hSw); go_simp; try with_reducible rfl)
                    try simp only [Act.put, List.setIfInBounds_toArray, List.set_cons_zero, List.set_cons_succ]
                    refine wpAnyM_take (i := 21) (v := ?_) (arr_get rfl) (by kernel_rfl) (by kernel_rfl) (by kernel_rfl) (by kernel_rfl) (by exact fun _ _ _ h => h) (Or.inl ⟨by rfl, ?_⟩) (HS.out _ H2.out) ?_
                    rotate_left
                    · (intro w' hSw; (try dsimp only at hSw); go_simp; try with_reducible rfl)
                    try simp only [Act.put, List.setIfInBounds_toArray, List.set_cons_zero, List.set_cons_succ]
                    refine wpAnyM_take (i := 22) (v := ?_) (arr_get rfl) (by kernel_rfl) (by kernel_rfl) (by kernel_rfl) (by kernel_rfl) (by exact fun _ _ _ h => h) (Or.inl ⟨by rfl, ?_⟩) (HS.out _ H2.out) ?_
                    rotate_left
                    · (intro w' hSw; (try dsimp only at hSw); go_simp; try with_reducible rfl)
                    try simp only [Act.put, List.setIfInBounds_toArray, List.set_cons_zero, List.set_cons_succ]
                    refine wpAnyM_take (i := 23) (v := ?_) (arr_get rfl) (by kernel_rfl) (by kernel_rfl) (by kernel_rfl) (by kernel_rfl) (by exact fun _ _ _ h => h) (Or.inl ⟨by rfl, ?_⟩) (HS.out _ H2.out) ?_
                    rotate_left
                    · (intro w' hSw; (try dsimp only at hSw); go_simp; try with_reducible rfl)
                    try simp only [Act.put, List.setIfInBounds_toArray, List.set_cons_zero, List.set_cons_succ]
                    refine wpAnyM_take (i := 24) (v := ?_) (arr_get rfl) (by kernel_rfl) (by kernel_rfl) (by kernel_rfl) (by kernel_rfl) (by exact fun _ _ _ h => h) (Or.inl ⟨by rfl, ?_⟩) (HS.out _ H2.out) ?_
                    rotate_left
                    · (intro w' hSw; (try dsimp only at hSw); go_simp; try with_reducible rfl)
                    try simp only [Act.put, List.setIfInBounds_toArray, List.set_cons_zero, List.set_cons_succ]
                    refine wpAnyM_one (i := 25) (by kernel_rfl) (arr_get rfl) ?_
                    go_wp2_with (go_at_call 28; refine (rcompare_any ok okn okc oq pk pkn pkc qk u1 (HQ.out.2.1.below (below_then HQ.out.2.2 HQ.out.2.2.size H2.out)) (HQ.out.1.below (below_then HQ.out.2.2 HQ.out.2.2.size H2.out))).mono ?_; rintro e u2 ⟨rfl, m3, hm3⟩; rw [HCM.out]; (have H3 := Aside0.mk (below_then H2.out H2.out.size (below_eq hm3))); clear hm3)
                    refine ⟨HS.out _ H3.out, ?_⟩
                    try simp only [Act.put, List.setIfInBounds_toArray, List.set_cons_zero, List.set_cons_succ]
                    refine wpAnyM_take (i := 26) (v := ?_) (arr_get rfl) (by kernel_rfl) (by kernel_rfl) (by kernel_rfl) (by kernel_rfl) (by exact fun _ _ _ h => h) (Or.inl ⟨by rfl, ?_⟩) (HS.out _ H3.out) ?_
                    rotate_left
                    · (intro w' hSw; (try dsimp only at hSw); go_simp; try with_reducible rfl)
                    try simp only [Act.put, List.setIfInBounds_toArray, List.set_cons_zero, List.set_cons_succ]
                    refine wpAnyM_take (i := 27) (v := ?_) (arr_get rfl) (by kernel_rfl) (by kernel_rfl) (by kernel_rfl) (by kernel_rfl) (by exact fun _ _ _ h => h) (Or.inl ⟨by rfl, ?_⟩) (HS.out _ H3.out) ?_
                    rotate_left
                    · (intro w' hSw; (try dsimp only at hSw); go_simp; try with_reducible rfl)
                    try simp only [Act.put, List.setIfInBounds_toArray, List.set_cons_zero, List.set_cons_succ]
                    refine wpAnyM_take (i := 28) (v := ?_) (arr_get rfl) (by kernel_rfl) (by kernel_rfl) (by kernel_rfl) (by kernel_rfl) (by exact fun _ _ _ h => h) (Or.inl ⟨by rfl, ?_⟩) (HS.out _ H3.out) ?_
                    rotate_left
                    · (intro w' hSw; (try dsimp only at hSw); go_simp; try with_reducible rfl)
                    try simp only [Act.put, List.setIfInBounds_toArray, List.set_cons_zero, List.set_cons_succ]
                    refine wpAnyM_done (by kernel_rfl) ?_ _
                    go_wp2_with fail
                    go_ret
                    refine ⟨?_, below_then (below_then H0B.out H0B.out.size hI.out.1) (by have := hI.out.1.size; have := H0B.out.size; omega) (below_then HBd.out HBd.out.size H3.out)⟩
                    rw [HRF.out]
                    try rfl
                  case pos =>
                    have HOK := Aside0.mk (show okI g v.items j from ⟨HWB.out, fun i2 hi2 => by
                      have h1 := HJ.out
                      obtain rfl : i2 = i := by omega
                      rw [HCV.out]
                      exact qc⟩)
                    subst qc
                    have HS := Aside0.mk (show ∀ X : World, Below u0.heap.size u0 X → X.cell? ⟨N, 1, none⟩ = some (.slice (some ad) In Ic) ∧ X.cell? (ad.add (j * 4)) = some (.slice pk pkn pkc) ∧ X.cell? ⟨(ad.add (j * 4)).block, (ad.add (j * 4)).off + 1, none⟩ = some (.slice pv pvn pvc) ∧ X.cell? ⟨(ad.add (j * 4)).block, (ad.add (j * 4)).off + 2, none⟩ = some (.int .i64 ps) ∧ X.cell? ⟨(ad.add (j * 4)).block, (ad.add (j * 4)).off + 3, none⟩ = some (.int .i64 pr) ∧ X.cell? (ad.add (i * 4)) = some (.slice ok okn okc) from fun X hX => ⟨cell_below hX HC.out.1, cell_below hX HC.out.2.1, cell_below hX HC.out.2.2.1, cell_below hX HC.out.2.2.2.1, cell_below hX HC.out.2.2.2.2, cell_below hX HD.out⟩)
                    refine wp_region_M (fun j => decide (j < 29)) (fun w' => w'.cell? ⟨N, 1, none⟩ = some (.slice (some ad) In Ic) ∧ w'.cell? (ad.add (j * 4)) = some (.slice pk pkn pkc) ∧ w'.cell? ⟨(ad.add (j * 4)).block, (ad.add (j * 4)).off + 1, none⟩ = some (.slice pv pvn pvc) ∧ w'.cell? ⟨(ad.add (j * 4)).block, (ad.add (j * 4)).off + 2, none⟩ = some (.int .i64 ps) ∧ w'.cell? ⟨(ad.add (j * 4)).block, (ad.add (j * 4)).off + 3, none⟩ = some (.int .i64 pr) ∧ w'.cell? (ad.add (i * 4)) = some (.slice ok okn okc)) (by kernel_rfl) ?_
                    rw [hu0]
                    clear hu0
                    refine wpAnyM_take (i := 0) (v := ?_) (arr_get rfl) (by kernel_rfl) (by kernel_rfl) (by kernel_rfl) (by kernel_rfl) (by exact fun _ _ _ h => h) (Or.inl ⟨by rfl, ?_⟩) (HS.out _ (Below.refl _ _)) ?_
                    rotate_left
                    · (intro w' hSw; (try dsimp only at hSw); go_simp; try with_reducible rfl)
                    try simp only [Act.put, List.setIfInBounds_toArray, List.set_cons_zero, List.set_cons_succ]
                    refine wpAnyM_take (i := 1) (v := ?_) (arr_get rfl) (by kernel_rfl) (by kernel_rfl) (by kernel_rfl) (by kernel_rfl) (by exact fun _ _ _ h => h) (Or.inl ⟨by rfl, ?_⟩) (HS.out _ (Below.refl _ _)) ?_
                    rotate_left
                    · (intro w' hSw; (try dsimp only at hSw); go_simp; try with_reducible rfl)
                    try simp only [Act.put, List.setIfInBounds_toArray, List.set_cons_zero, List.set_cons_succ]
                    refine wpAnyM_take (i := 2) (v := ?_) (arr_get rfl) (by kernel_rfl) (by kernel_rfl) (by kernel_rfl) (by kernel_rfl) (by exact fun _ _ _ h => h) (Or.inl ⟨by rfl, ?_⟩) (HS.out _ (Below.refl _ _)) ?_
                    rotate_left
                    · (intro w' hSw; (try dsimp only at hSw); go_simp; try with_reducible rfl)
                    try simp only [Act.put, List.setIfInBounds_toArray, List.set_cons_zero, List.set_cons_succ]
                    refine wpAnyM_take (i := 3) (v := ?_) (arr_get rfl) (by kernel_rfl) (by kernel_rfl) (by kernel_rfl) (by kernel_rfl) (by exact fun _ _ _ h => h) (Or.inl ⟨by rfl, ?_⟩) (HS.out _ (Below.refl _ _)) ?_
                    rotate_left
                    · (intro w' hSw; (try dsimp only at hSw); go_simp; try with_reducible rfl)
                    try simp only [Act.put, List.setIfInBounds_toArray, List.set_cons_zero, List.set_cons_succ]
                    refine wpAnyM_take (i := 4) (v := ?_) (arr_get rfl) (by kernel_rfl) (by kernel_rfl) (by kernel_rfl) (by kernel_rfl) (by exact fun _ _ _ h => h) (Or.inl ⟨by rfl, ?_⟩) (HS.out _ (Below.refl _ _)) ?_
                    rotate_left
                    · (intro w' hSw; (try dsimp only at hSw); go_simp; try with_reducible rfl)
                    try simp only [Act.put, List.setIfInBounds_toArray, List.set_cons_zero, List.set_cons_succ]
                    refine wpAnyM_take (i := 5) (v := ?_) (arr_get rfl) (by kernel_rfl) (by kernel_rfl) (by kernel_rfl) (by kernel_rfl) (by exact fun _ _ _ h => h) (Or.inl ⟨by rfl, ?_⟩) (HS.out _ (Below.refl _ _)) ?_
                    rotate_left
                    · (intro w' hSw; (try dsimp only at hSw); go_simp; try with_reducible rfl)
                    try simp only [Act.put, List.setIfInBounds_toArray, List.set_cons_zero, List.set_cons_succ]
                    refine wpAnyM_one (i := 6) (by kernel_rfl) (arr_get rfl) ?_
                    go_wp2_with (go_at_call 79; refine (rright_any g pk pkn pkc pv pvn pvc ps pr u0 HKL.out.1 HKL.out.2).mono ?_; rintro e u1 ⟨rfl, hB⟩; rw [HRB.out]; (have H2 := Aside0.mk hB); clear hB)
                    refine ⟨HS.out _ H2.out, ?_⟩
                    try simp only [Act.put, List.setIfInBounds_toArray, List.set_cons_zero, List.set_cons_succ]
                    refine wpAnyM_take (i := 7) (v := ?_) (arr_get rfl) (by kernel_rfl) (by kernel_rfl) (by kernel_rfl) (by kernel_rfl) (by exact fun _ _ _ h => h) (Or.inl ⟨by rfl, ?_⟩) (HS.out _ H2.out) ?_
                    rotate_left
                    · (intro w' hSw; (try dsimp only at hSw); go_simp; try with_reducible rfl)
                    try simp only [Act.put, List.setIfInBounds_toArray, List.set_cons_zero, List.set_cons_succ]
                    refine wpAnyM_take (i := 8) (v := ?_) (arr_get rfl) (by kernel_rfl) (by kernel_rfl) (by kernel_rfl) (by kernel_rfl) (by exact fun _ _ _ h => h) (Or.inl ⟨by rfl, ?_⟩) (HS.out _ H2.out) ?_
                    rotate_left
                    · (intro w' hSw; (try dsimp only at hSw); go_simp; try with_reducible rfl)
                    try simp only [Act.put, List.setIfInBounds_toArray, List.set_cons_zero, List.set_cons_succ]
                    refine wpAnyM_take (i := 9) (v := ?_) (arr_get rfl) (by kernel_rfl) (by kernel_rfl) (by kernel_rfl) (by kernel_rfl) (by exact fun _ _ _ h => h) (Or.inl ⟨by rfl, ?_⟩) (HS.out _ H2.out) ?_
                    rotate_left
                    · (intro w' hSw; (try dsimp only at hSw); go_simp; try with_reducible rfl)
                    try simp only [Act.put, List.setIfInBounds_toArray, List.set_cons_zero, List.set_cons_succ]
                    refine wpAnyM_take (i := 10) (v := ?_) (arr_get rfl) (by kernel_rfl) (by kernel_rfl) (by kernel_rfl) (by kernel_rfl) (by exact fun _ _ _ h => h) (Or.inl ⟨by rfl, ?_⟩) (HS.out _ H2.out) ?_
                    rotate_left
                    · (intro w' hSw; (try dsimp only at hSw); go_simp; try with_reducible rfl)
                    try simp only [Act.put, List.setIfInBounds_toArray, List.set_cons_zero, List.set_cons_succ]
                    refine wpAnyM_take (i := 11) (v := ?_) (arr_get rfl) (by kernel_rfl) (by kernel_rfl) (by kernel_rfl) (by kernel_rfl) (by exact fun _ _ _ h => h) (Or.inl ⟨by rfl, ?_⟩) (HS.out _ H2.out) ?_
                    rotate_left
                    · (intro w' hSw; (try dsimp only at hSw); go_simp; try with_reducible rfl)
                    try simp only [Act.put, List.setIfInBounds_toArray, List.set_cons_zero, List.set_cons_succ]
                    refine wpAnyM_take (i := 12) (v := ?_) (arr_get rfl) (by kernel_rfl) (by kernel_rfl) (by kernel_rfl) (by kernel_rfl) (by exact fun _ _ _ h => h) (Or.inl ⟨by rfl, ?_⟩) (HS.out _ H2.out) ?_
                    rotate_left
                    · (intro w' hSw; (try dsimp only at hSw); go_simp; try with_reducible rfl)
                    try simp only [Act.put, List.setIfInBounds_toArray, List.set_cons_zero, List.set_cons_succ]
                    refine wpAnyM_take (i := 13) (v := ?_) (arr_get rfl) (by kernel_rfl) (by kernel_rfl) (by kernel_rfl) (by kernel_rfl) (by exact fun _ _ _ h => h) (Or.inl ⟨by rfl, ?_⟩) (HS.out _ H2.out) ?_
                    rotate_left
                    · (intro w' hSw; (try dsimp only at hSw); go_simp; try with_reducible rfl)
                    try simp only [Act.put, List.setIfInBounds_toArray, List.set_cons_zero, List.set_cons_succ]
                    refine wpAnyM_take (i := 14) (v := ?_) (arr_get rfl) (by kernel_rfl) (by kernel_rfl) (by kernel_rfl) (by kernel_rfl) (by exact fun _ _ _ h => h) (Or.inl ⟨by rfl, ?_⟩) (HS.out _ H2.out) ?_
                    rotate_left
                    · (intro w' hSw; (try dsimp only at hSw); go_simp; try with_reducible rfl)
                    try simp only [Act.put, List.setIfInBounds_toArray, List.set_cons_zero, List.set_cons_succ]
                    refine wpAnyM_take (i := 15) (v := ?_) (arr_get rfl) (by kernel_rfl) (by kernel_rfl) (by kernel_rfl) (by kernel_rfl) (by exact fun _ _ _ h => h) (Or.inl ⟨by rfl, ?_⟩) (HS.out _ H2.out) ?_
                    rotate_left
                    · (intro w' hSw; (try dsimp only at hSw); go_simp; try with_reducible rfl)
                    try simp only [Act.put, List.setIfInBounds_toArray, List.set_cons_zero, List.set_cons_succ]
                    refine wpAnyM_take (i := 16) (v := ?_) (arr_get rfl) (by kernel_rfl) (by kernel_rfl) (by kernel_rfl) (by kernel_rfl) (by exact fun _ _ _ h => h) (Or.inl ⟨by rfl, ?_⟩) (HS.out _ H2.out) ?_
                    rotate_left
                    · (intro w' hSw; (try dsimp only at hSw); go_simp; try with_reducible rfl)
                    try simp only [Act.put, List.setIfInBounds_toArray, List.set_cons_zero, List.set_cons_succ]
                    refine wpAnyM_take (i := 17) (v := ?_) (arr_get rfl) (by kernel_rfl) (by kernel_rfl) (by kernel_rfl) (by kernel_rfl) (by exact fun _ _ _ h => h) (Or.inl ⟨by rfl, ?_⟩) (HS.out _ H2.out) ?_
                    rotate_left
                    · (intro w' hSw; (try dsimp only at hSw); go_simp; try with_reducible rfl)
                    try simp only [Act.put, List.setIfInBounds_toArray, List.set_cons_zero, List.set_cons_succ]
                    refine wpAnyM_take (i := 18) (v := ?_) (arr_get rfl) (by kernel_rfl) (by kernel_rfl) (by kernel_rfl) (by kernel_rfl) (by exact fun _ _ _ h => h) (Or.inl ⟨by rfl, ?_⟩) (HS.out _ H2.out) ?_
                    rotate_left
                    · (intro w' hSw; (try dsimp only at hSw); go_simp; try with_reducible rfl)
                    try simp only [Act.put, List.setIfInBounds_toArray, List.set_cons_zero, List.set_cons_succ]
                    refine wpAnyM_take (i := 19) (v := ?_) (arr_get rfl) (by kernel_rfl) (by kernel_rfl) (by kernel_rfl) (by kernel_rfl) (by exact fun _ _ _ h => h) (Or.inl ⟨by rfl, ?_⟩) (HS.out _ H2.out) ?_
                    rotate_left
                    · (intro w' hSw; (try dsimp only at hSw); go_simp; try with_reducible rfl)
                    try simp only [Act.put, List.setIfInBounds_toArray, List.set_cons_zero, List.set_cons_succ]
                    refine wpAnyM_take (i := 20) (v := ?_) (arr_get rfl) (by kernel_rfl) (by kernel_rfl) (by kernel_rfl) (by kernel_rfl) (by exact fun _ _ _ h => h) (Or.inl ⟨by rfl, ?_⟩) (HS.out _ H2.out) ?_
                    rotate_left
                    · (intro w' hSw; (try dsimp only at hSw); go_simp; try with_reducible rfl)
                    try simp only [Act.put, List.setIfInBounds_toArray, List.set_cons_zero, List.set_cons_succ]
                    refine wpAnyM_take (i := 21) (v := ?_) (arr_get rfl) (by kernel_rfl) (by kernel_rfl) (by kernel_rfl) (by kernel_rfl) (by exact fun _ _ _ h => h) (Or.inl ⟨by rfl, ?_⟩) (HS.out _ H2.out) ?_
                    rotate_left
                    · (intro w' hSw; (try dsimp only at hSw); go_simp; try with_reducible rfl)
                    try simp only [Act.put, List.setIfInBounds_toArray, List.set_cons_zero, List.set_cons_succ]
                    refine wpAnyM_take (i := 22) (v := ?_) (arr_get rfl) (by kernel_rfl) (by kernel_rfl) (by kernel_rfl) (by kernel_rfl) (by exact fun _ _ _ h => h) (Or.inl ⟨by rfl, ?_⟩) (HS.out _ H2.out) ?_
                    rotate_left
                    · (intro w' hSw; (try dsimp only at hSw); go_simp; try with_reducible rfl)
                    try simp only [Act.put, List.setIfInBounds_toArray, List.set_cons_zero, List.set_cons_succ]
                    refine wpAnyM_take (i := 23) (v := ?_) (arr_get rfl) (by kernel_rfl) (by kernel_rfl) (by kernel_rfl) (by kernel_rfl) (by exact fun _ _ _ h => h) (Or.inl ⟨by rfl, ?_⟩) (HS.out _ H2.out) ?_
                    rotate_left
                    · (intro w' hSw; (try dsimp only at hSw); go_simp; try with_reducible rfl)
                    try simp only [Act.put, List.setIfInBounds_toArray, List.set_cons_zero, List.set_cons_succ]
                    refine wpAnyM_take (i := 24) (v := ?_) (arr_get rfl) (by kernel_rfl) (by kernel_rfl) (by kernel_rfl) (by kernel_rfl) (by exact fun _ _ _ h => h) (Or.inl ⟨by rfl, ?_⟩) (HS.out _ H2.out) ?_
                    rotate_left
                    · (intro w' hSw; (try dsimp only at hSw); go_simp; try with_reducible rfl)
                    try simp only [Act.put, List.setIfInBounds_toArray, List.set_cons_zero, List.set_cons_succ]
                    refine wpAnyM_one (i := 25) (by kernel_rfl) (arr_get rfl) ?_
                    go_wp2_with (go_at_call 28; refine (rcompare_any ok okn okc oq pk pkn pkc qk u1 (HQ.out.2.1.below (below_then HQ.out.2.2 HQ.out.2.2.size H2.out)) (HQ.out.1.below (below_then HQ.out.2.2 HQ.out.2.2.size H2.out))).mono ?_; rintro e u2 ⟨rfl, m3, hm3⟩; rw [HCM.out]; (have H3 := Aside0.mk (below_then H2.out H2.out.size (below_eq hm3))); clear hm3)
                    refine ⟨HS.out _ H3.out, ?_⟩
                    try simp only [Act.put, List.setIfInBounds_toArray, List.set_cons_zero, List.set_cons_succ]
                    refine wpAnyM_take (i := 26) (v := ?_) (arr_get rfl) (by kernel_rfl) (by kernel_rfl) (by kernel_rfl) (by kernel_rfl) (by exact fun _ _ _ h => h) (Or.inl ⟨by rfl, ?_⟩) (HS.out _ H3.out) ?_
                    rotate_left
                    · (intro w' hSw; (try dsimp only at hSw); go_simp; try with_reducible rfl)
                    try simp only [Act.put, List.setIfInBounds_toArray, List.set_cons_zero, List.set_cons_succ]
                    refine wpAnyM_take (i := 27) (v := ?_) (arr_get rfl) (by kernel_rfl) (by kernel_rfl) (by kernel_rfl) (by kernel_rfl) (by exact fun _ _ _ h => h) (Or.inl ⟨by rfl, ?_⟩) (HS.out _ H3.out) ?_
                    rotate_left
                    · (intro w' hSw; (try dsimp only at hSw); go_simp; try with_reducible rfl)
                    try simp only [Act.put, List.setIfInBounds_toArray, List.set_cons_zero, List.set_cons_succ]
                    refine wpAnyM_take (i := 28) (v := ?_) (arr_get rfl) (by kernel_rfl) (by kernel_rfl) (by kernel_rfl) (by kernel_rfl) (by exact fun _ _ _ h => h) (Or.inl ⟨by rfl, ?_⟩) (HS.out _ H3.out) ?_
                    rotate_left
                    · (intro w' hSw; (try dsimp only at hSw); go_simp; try with_reducible rfl)
                    try simp only [Act.put, List.setIfInBounds_toArray, List.set_cons_zero, List.set_cons_succ]
                    refine wpAnyM_done (by kernel_rfl) ?_ _
                    go_wp2_with fail
                    go_roundg (In - (j + 1))
                    case measure => have := hk.out; omega
                    case rel => exact ⟨j + 1, (by show In - (j + 1) + (j + 1) = In; omega), by go_num, ⟨below_then hI.out.1 hI.out.1.size (below_then HBd.out HBd.out.size H3.out), fun i2 hi2 => by
                        rcases Nat.lt_or_ge i2 j with q | q
                        · exact hI.out.2 i2 q
                        · obtain rfl : i2 = j := by omega
                          exact HOK.out⟩⟩
            · obtain rfl : In = j := by omega
              have d1 : decide ((In : Int) < (In : Int)) = false := by simp
              have HFI := Aside0.mk (show rightN g v = decide (Kn = 0) by
                have h := HRL.out
                have h2 := hI.out.2
                rw [← HLL.out.1] at h2
                rw [Bool.eq_iff_iff, h, decide_eq_true_iff, HLL.out.2]
                exact ⟨fun k => k.2, fun k => ⟨fun j hj => h2 j hj, k⟩⟩)
              have hB9 := Aside0.mk (below_then H0B.out H0B.out.size hI.out.1)
              by_cases qk : Kn = 0
              · subst qk
                go_wp2_with fail
                go_ret
                refine ⟨?_, hB9.out⟩
                rw [HFI.out]
                rfl
              · have dk : ((Kn : Int) == 0) = false := beq_eq_false_iff_ne.2 (by omega)
                have HFK := Aside0.mk (decide_eq_false qk)
                clear qk
                go_wp2_with fail
                go_ret
                refine ⟨?_, hB9.out⟩
                rw [HFI.out, HFK.out]
                try rfl
        | false =>
          have HRL := Aside0.mk (right_branch HLF.out.symm HG.out HF.out)
          go_wp2_with fail
          clear y0 y1 y2
          go_loopg [6] Kn (fun gk v6 wr => ∃ (j : Nat), Aside (gk + j = Kn) ∧ v6 = .int .i64 (j : Int) ∧ Aside0 (Below w1.heap.size w1 wr ∧ ∀ i, i < j → okK g v.kids i))
          case atStart => exact ⟨0, rfl, rfl, ⟨Below.refl _ _, fun i hi => absurd hi (by omega)⟩⟩
          case round =>
            obtain ⟨j, hk, rfl, hI⟩ := hrel
            have hjm : j ≤ Kn := by have := hk.out; omega
            have hrow := Aside0.mk ((hI.out.1.block _ (Array.getElem?_eq_some_iff.1 H0.out.1).1).trans H0.out.1)
            obtain ⟨y0, y1, y2⟩ := nd_cells hrow.out
            rcases Nat.lt_or_ge j Kn with hlt | hge
            · have d1 : decide ((j : Int) < (Kn : Int)) = true := decide_eq_true (by omega)
              have hjn : (j : Int) < (Kn : Int) := by omega
              have HNr := Aside0.mk (H0.out.2.below hI.out.1)
              obtain ⟨ad, p, e0, hp, c0, c1⟩ := HNr.out.rk.kid HNr.out.lk j hlt
              obtain ⟨q, hq, bk, er⟩ := HNr.out.kds.each j p hp
              simp only at e0
              subst e0
              obtain ⟨⟨pk, pkn, pkc⟩, pr⟩ := p
              obtain ⟨qk, qr⟩ := q
              unfold shv at c0
              unfold Bsh at bk
              simp only at c0 c1 bk er
              subst er
              go_upto_region 14 with fail
              have hb5 := (Below.refl _ wr).alloc (Nat.le_refl _) (.cells #[.slice pk pkn pkc, .int .i64 pr] 72)
              have hr5 := heap_alloc_new wr (.cells #[.slice pk pkn pkc, .int .i64 pr] 72)
              obtain ⟨M, hM⟩ : ∃ X, wr.heap.size = X := ⟨_, rfl⟩
              obtain ⟨v5, hv5⟩ : ∃ X, wr.alloc (.cells #[.slice pk pkn pkc, .int .i64 pr] 72) = X := ⟨_, rfl⟩
              rw [hv5] at hb5 hr5
              have hr5' : v5.heap[M]? = some (.cells #[.slice pk pkn pkc, .int .i64 pr] 72) := by rw [← hM]; exact hr5
              rw [hv5, hM]
              have hb6 := below_then hb5 hb5.size (below_drew (Below.refl v5.heap.size v5))
              obtain ⟨v0, hv0⟩ : ∃ X, v5.drew = X := ⟨_, rfl⟩
              rw [hv0] at hb6
              have hr6 : v0.heap[M]? = some (.cells #[.slice pk pkn pkc, .int .i64 pr] 72) := by rw [← hv0]; exact hr5'
              have HBd := Aside0.mk hb6
              have HM := Aside0.mk (show ∀ X : World, Below v0.heap.size v0 X → X.cell? ⟨M, 0, none⟩ = some (.slice pk pkn pkc) ∧ X.cell? ⟨M, 1, none⟩ = some (.int .i64 pr) from fun X hX => by
                have hr := (hX.block _ (Array.getElem?_eq_some_iff.1 hr6).1).trans hr6
                exact ⟨by rw [cell_of_row _ _ _ _ _ _ hr]; rfl, by rw [cell_of_row _ _ _ _ _ _ hr]; rfl⟩)
              have HNd := Aside0.mk (HNr.out.below hb6)
              have HN2 := Aside0.mk (show ∀ X : World, Below v0.heap.size v0 X → X.cell? ⟨N, 2, none⟩ = some (.slice (some ad) Kn Kc) from fun X hX => (nd_cells ((below_then hb6 hb6.size hX).block _ (Array.getElem?_eq_some_iff.1 hrow.out).1 |>.trans hrow.out)).2.2)
              have HGQ := Aside0.mk (getD_of (d := kvd) hq)
              have HQL := Aside0.mk bk.len
              have HBK := Aside0.mk (bk.below hb6)
              clear y0 y1 y2 c0 c1 hp hq hb5 hr5 hr5' hb6 hr6 hM hv5 bk
              have HNO := Aside0.mk (show ¬ okK g v.kids j → rightN g v = false from fun h => by
                cases hr : rightN g v with
                | false => rfl
                | true => exact absurd ((HRL.out.1 hr).1 j (by rw [HLL.out.2]; exact hlt)) h)
              by_cases b1 : pr < 2
              case pos =>
                have db1 : decide (pr < 2) = true := decide_eq_true b1
                have HRF := Aside0.mk (HNO.out (fun h => by unfold okK at h; rw [HGQ.out] at h; simp only at h; omega))
                clear b1
                refine wp_region_M (fun j => decide (j < 25)) (fun w' => w'.cell? ⟨M, 0, none⟩ = some (.slice pk pkn pkc) ∧ w'.cell? ⟨M, 1, none⟩ = some (.int .i64 pr)) (by kernel_rfl) ?_
                rw [hv0]
                clear hv0
                refine wpAnyM_take (i := 0) (v := ?_) (arr_get rfl) (by kernel_rfl) (by kernel_rfl) (by kernel_rfl) (by kernel_rfl) (by exact fun _ _ _ h => h) (Or.inl ⟨by rfl, ?_⟩) (HM.out _ (Below.refl _ _)) ?_
                rotate_left
                · (intro w' hSw; (try dsimp only at hSw); go_simp; try with_reducible rfl)
                try simp only [Act.put, List.setIfInBounds_toArray, List.set_cons_zero, List.set_cons_succ]
                refine wpAnyM_take (i := 1) (v := ?_) (arr_get rfl) (by kernel_rfl) (by kernel_rfl) (by kernel_rfl) (by kernel_rfl) (by exact fun _ _ _ h => h) (Or.inl ⟨by rfl, ?_⟩) (HM.out _ (Below.refl _ _)) ?_
                rotate_left
                · (intro w' hSw; (try dsimp only at hSw); go_simp; try with_reducible rfl)
                try simp only [Act.put, List.setIfInBounds_toArray, List.set_cons_zero, List.set_cons_succ]
                refine wpAnyM_take (i := 2) (v := ?_) (arr_get rfl) (by kernel_rfl) (by kernel_rfl) (by kernel_rfl) (by kernel_rfl) (by exact fun _ _ _ h => h) (Or.inl ⟨by rfl, ?_⟩) (HM.out _ (Below.refl _ _)) ?_
                rotate_left
                · (intro w' hSw; (try dsimp only at hSw); go_simp; try with_reducible rfl)
                try simp only [Act.put, List.setIfInBounds_toArray, List.set_cons_zero, List.set_cons_succ]
                refine wpAnyM_take (i := 3) (v := ?_) (arr_get rfl) (by kernel_rfl) (by kernel_rfl) (by kernel_rfl) (by kernel_rfl) (by exact fun _ _ _ h => h) (Or.inl ⟨by rfl, ?_⟩) (HM.out _ (Below.refl _ _)) ?_
                rotate_left
                · (intro w' hSw; (try dsimp only at hSw); go_simp; try with_reducible rfl)
                try simp only [Act.put, List.setIfInBounds_toArray, List.set_cons_zero, List.set_cons_succ]
                refine wpAnyM_take (i := 4) (v := undef) (arr_get rfl) (by kernel_rfl) (by kernel_rfl) (by kernel_rfl) (by kernel_rfl) (by exact fun _ _ _ h => h) (Or.inr ⟨by rfl, rfl⟩) (HM.out _ (Below.refl _ _)) ?_
                try simp only [Act.put, List.setIfInBounds_toArray, List.set_cons_zero, List.set_cons_succ]
                refine wpAnyM_take (i := 5) (v := undef) (arr_get rfl) (by kernel_rfl) (by kernel_rfl) (by kernel_rfl) (by kernel_rfl) (by exact fun _ _ _ h => h) (Or.inr ⟨by rfl, rfl⟩) (HM.out _ (Below.refl _ _)) ?_
                try simp only [Act.put, List.setIfInBounds_toArray, List.set_cons_zero, List.set_cons_succ]
                refine wpAnyM_take (i := 6) (v := undef) (arr_get rfl) (by kernel_rfl) (by kernel_rfl) (by kernel_rfl) (by kernel_rfl) (by exact fun _ _ _ h => h) (Or.inr ⟨by rfl, rfl⟩) (HM.out _ (Below.refl _ _)) ?_
                try simp only [Act.put, List.setIfInBounds_toArray, List.set_cons_zero, List.set_cons_succ]
                refine wpAnyM_take (i := 7) (v := ?_) (arr_get rfl) (by kernel_rfl) (by kernel_rfl) (by kernel_rfl) (by kernel_rfl) (by exact fun _ _ _ h => h) (Or.inl ⟨by rfl, ?_⟩) (HM.out _ (Below.refl _ _)) ?_
                rotate_left
                · (intro w' hSw; (try dsimp only at hSw); go_simp; try with_reducible rfl)
                try simp only [Act.put, List.setIfInBounds_toArray, List.set_cons_zero, List.set_cons_succ]
                refine wpAnyM_take (i := 8) (v := ?_) (arr_get rfl) (by kernel_rfl) (by kernel_rfl) (by kernel_rfl) (by kernel_rfl) (by exact fun _ _ _ h => h) (Or.inl ⟨by rfl, ?_⟩) (HM.out _ (Below.refl _ _)) ?_
                rotate_left
                · (intro w' hSw; (try dsimp only at hSw); go_simp; try with_reducible rfl)
                try simp only [Act.put, List.setIfInBounds_toArray, List.set_cons_zero, List.set_cons_succ]
                refine wpAnyM_take (i := 9) (v := undef) (arr_get rfl) (by kernel_rfl) (by kernel_rfl) (by kernel_rfl) (by kernel_rfl) (by exact fun _ _ _ h => h) (Or.inr ⟨by rfl, rfl⟩) (HM.out _ (Below.refl _ _)) ?_
                try simp only [Act.put, List.setIfInBounds_toArray, List.set_cons_zero, List.set_cons_succ]
                refine wpAnyM_take (i := 10) (v := undef) (arr_get rfl) (by kernel_rfl) (by kernel_rfl) (by kernel_rfl) (by kernel_rfl) (by exact fun _ _ _ h => h) (Or.inr ⟨by rfl, rfl⟩) (HM.out _ (Below.refl _ _)) ?_
                try simp only [Act.put, List.setIfInBounds_toArray, List.set_cons_zero, List.set_cons_succ]
                refine wpAnyM_take (i := 11) (v := undef) (arr_get rfl) (by kernel_rfl) (by kernel_rfl) (by kernel_rfl) (by kernel_rfl) (by exact fun _ _ _ h => h) (Or.inr ⟨by rfl, rfl⟩) (HM.out _ (Below.refl _ _)) ?_
                try simp only [Act.put, List.setIfInBounds_toArray, List.set_cons_zero, List.set_cons_succ]
                refine wpAnyM_take (i := 12) (v := undef) (arr_get rfl) (by kernel_rfl) (by kernel_rfl) (by kernel_rfl) (by kernel_rfl) (by exact fun _ _ _ h => h) (Or.inr ⟨by rfl, rfl⟩) (HM.out _ (Below.refl _ _)) ?_
                try simp only [Act.put, List.setIfInBounds_toArray, List.set_cons_zero, List.set_cons_succ]
                refine wpAnyM_take (i := 13) (v := undef) (arr_get rfl) (by kernel_rfl) (by kernel_rfl) (by kernel_rfl) (by kernel_rfl) (by exact fun _ _ _ h => h) (Or.inr ⟨by rfl, rfl⟩) (HM.out _ (Below.refl _ _)) ?_
                try simp only [Act.put, List.setIfInBounds_toArray, List.set_cons_zero, List.set_cons_succ]
                refine wpAnyM_take (i := 14) (v := undef) (arr_get rfl) (by kernel_rfl) (by kernel_rfl) (by kernel_rfl) (by kernel_rfl) (by exact fun _ _ _ h => h) (Or.inr ⟨by rfl, rfl⟩) (HM.out _ (Below.refl _ _)) ?_
                try simp only [Act.put, List.setIfInBounds_toArray, List.set_cons_zero, List.set_cons_succ]
                refine wpAnyM_take (i := 15) (v := ?_) (arr_get rfl) (by kernel_rfl) (by kernel_rfl) (by kernel_rfl) (by kernel_rfl) (by exact fun _ _ _ h => h) (Or.inl ⟨by rfl, ?_⟩) (HM.out _ (Below.refl _ _)) ?_
                rotate_left
                · (intro w' hSw; (try dsimp only at hSw); go_simp; try with_reducible rfl)
                try simp only [Act.put, List.setIfInBounds_toArray, List.set_cons_zero, List.set_cons_succ]
                refine wpAnyM_take (i := 16) (v := ?_) (arr_get rfl) (by kernel_rfl) (by kernel_rfl) (by kernel_rfl) (by kernel_rfl) (by exact fun _ _ _ h => h) (Or.inl ⟨by rfl, ?_⟩) (HM.out _ (Below.refl _ _)) ?_
                rotate_left
                · (intro w' hSw; (try dsimp only at hSw); go_simp; try with_reducible rfl)
                try simp only [Act.put, List.setIfInBounds_toArray, List.set_cons_zero, List.set_cons_succ]
                refine wpAnyM_take (i := 17) (v := undef) (arr_get rfl) (by kernel_rfl) (by kernel_rfl) (by kernel_rfl) (by kernel_rfl) (by exact fun _ _ _ h => h) (Or.inr ⟨by rfl, rfl⟩) (HM.out _ (Below.refl _ _)) ?_
                try simp only [Act.put, List.setIfInBounds_toArray, List.set_cons_zero, List.set_cons_succ]
                refine wpAnyM_take (i := 18) (v := undef) (arr_get rfl) (by kernel_rfl) (by kernel_rfl) (by kernel_rfl) (by kernel_rfl) (by exact fun _ _ _ h => h) (Or.inr ⟨by rfl, rfl⟩) (HM.out _ (Below.refl _ _)) ?_
                try simp only [Act.put, List.setIfInBounds_toArray, List.set_cons_zero, List.set_cons_succ]
                refine wpAnyM_take (i := 19) (v := undef) (arr_get rfl) (by kernel_rfl) (by kernel_rfl) (by kernel_rfl) (by kernel_rfl) (by exact fun _ _ _ h => h) (Or.inr ⟨by rfl, rfl⟩) (HM.out _ (Below.refl _ _)) ?_
                try simp only [Act.put, List.setIfInBounds_toArray, List.set_cons_zero, List.set_cons_succ]
                refine wpAnyM_take (i := 20) (v := undef) (arr_get rfl) (by kernel_rfl) (by kernel_rfl) (by kernel_rfl) (by kernel_rfl) (by exact fun _ _ _ h => h) (Or.inr ⟨by rfl, rfl⟩) (HM.out _ (Below.refl _ _)) ?_
                try simp only [Act.put, List.setIfInBounds_toArray, List.set_cons_zero, List.set_cons_succ]
                refine wpAnyM_take (i := 21) (v := undef) (arr_get rfl) (by kernel_rfl) (by kernel_rfl) (by kernel_rfl) (by kernel_rfl) (by exact fun _ _ _ h => h) (Or.inr ⟨by rfl, rfl⟩) (HM.out _ (Below.refl _ _)) ?_
                try simp only [Act.put, List.setIfInBounds_toArray, List.set_cons_zero, List.set_cons_succ]
                refine wpAnyM_take (i := 22) (v := undef) (arr_get rfl) (by kernel_rfl) (by kernel_rfl) (by kernel_rfl) (by kernel_rfl) (by exact fun _ _ _ h => h) (Or.inr ⟨by rfl, rfl⟩) (HM.out _ (Below.refl _ _)) ?_
                try simp only [Act.put, List.setIfInBounds_toArray, List.set_cons_zero, List.set_cons_succ]
                refine wpAnyM_take (i := 23) (v := undef) (arr_get rfl) (by kernel_rfl) (by kernel_rfl) (by kernel_rfl) (by kernel_rfl) (by exact fun _ _ _ h => h) (Or.inr ⟨by rfl, rfl⟩) (HM.out _ (Below.refl _ _)) ?_
                try simp only [Act.put, List.setIfInBounds_toArray, List.set_cons_zero, List.set_cons_succ]
                refine wpAnyM_take (i := 24) (v := ?_) (arr_get rfl) (by kernel_rfl) (by kernel_rfl) (by kernel_rfl) (by kernel_rfl) (by exact fun _ _ _ h => h) (Or.inl ⟨by rfl, ?_⟩) (HM.out _ (Below.refl _ _)) ?_
                rotate_left
                · (intro w' hSw; (try dsimp only at hSw); go_simp; try with_reducible rfl)
                try simp only [Act.put, List.setIfInBounds_toArray, List.set_cons_zero, List.set_cons_succ]
                refine wpAnyM_done (by kernel_rfl) ?_ _
                go_wp2_with fail
                go_ret
                refine ⟨?_, below_then (below_then H0B.out H0B.out.size hI.out.1) (by have := hI.out.1.size; have := H0B.out.size; omega) (below_then HBd.out HBd.out.size (Below.refl _ _))⟩
                rw [HRF.out]
                try rfl
              case neg =>
                have db1 : decide (pr < 2) = false := decide_eq_false b1
                by_cases b2 : 16383 < pr
                case pos =>
                  have db2 : decide (16383 < pr) = true := decide_eq_true b2
                  have HRF := Aside0.mk (HNO.out (fun h => by unfold okK at h; rw [HGQ.out] at h; simp only at h; omega))
                  clear b1 b2
                  refine wp_region_M (fun j => decide (j < 25)) (fun w' => w'.cell? ⟨M, 0, none⟩ = some (.slice pk pkn pkc) ∧ w'.cell? ⟨M, 1, none⟩ = some (.int .i64 pr)) (by kernel_rfl) ?_
                  rw [hv0]
                  clear hv0
                  refine wpAnyM_take (i := 0) (v := ?_) (arr_get rfl) (by kernel_rfl) (by kernel_rfl) (by kernel_rfl) (by kernel_rfl) (by exact fun _ _ _ h => h) (Or.inl ⟨by rfl, ?_⟩) (HM.out _ (Below.refl _ _)) ?_
                  rotate_left
                  · (intro w' hSw; (try dsimp only at hSw); go_simp; try with_reducible rfl)
                  try simp only [Act.put, List.setIfInBounds_toArray, List.set_cons_zero, List.set_cons_succ]
                  refine wpAnyM_take (i := 1) (v := ?_) (arr_get rfl) (by kernel_rfl) (by kernel_rfl) (by kernel_rfl) (by kernel_rfl) (by exact fun _ _ _ h => h) (Or.inl ⟨by rfl, ?_⟩) (HM.out _ (Below.refl _ _)) ?_
                  rotate_left
                  · (intro w' hSw; (try dsimp only at hSw); go_simp; try with_reducible rfl)
                  try simp only [Act.put, List.setIfInBounds_toArray, List.set_cons_zero, List.set_cons_succ]
                  refine wpAnyM_take (i := 2) (v := ?_) (arr_get rfl) (by kernel_rfl) (by kernel_rfl) (by kernel_rfl) (by kernel_rfl) (by exact fun _ _ _ h => h) (Or.inl ⟨by rfl, ?_⟩) (HM.out _ (Below.refl _ _)) ?_
                  rotate_left
                  · (intro w' hSw; (try dsimp only at hSw); go_simp; try with_reducible rfl)
                  try simp only [Act.put, List.setIfInBounds_toArray, List.set_cons_zero, List.set_cons_succ]
                  refine wpAnyM_take (i := 3) (v := ?_) (arr_get rfl) (by kernel_rfl) (by kernel_rfl) (by kernel_rfl) (by kernel_rfl) (by exact fun _ _ _ h => h) (Or.inl ⟨by rfl, ?_⟩) (HM.out _ (Below.refl _ _)) ?_
                  rotate_left
                  · (intro w' hSw; (try dsimp only at hSw); go_simp; try with_reducible rfl)
                  try simp only [Act.put, List.setIfInBounds_toArray, List.set_cons_zero, List.set_cons_succ]
                  refine wpAnyM_take (i := 4) (v := ?_) (arr_get rfl) (by kernel_rfl) (by kernel_rfl) (by kernel_rfl) (by kernel_rfl) (by exact fun _ _ _ h => h) (Or.inl ⟨by rfl, ?_⟩) (HM.out _ (Below.refl _ _)) ?_
                  rotate_left
                  · (intro w' hSw; (try dsimp only at hSw); go_simp; try with_reducible rfl)
                  try simp only [Act.put, List.setIfInBounds_toArray, List.set_cons_zero, List.set_cons_succ]
                  refine wpAnyM_take (i := 5) (v := ?_) (arr_get rfl) (by kernel_rfl) (by kernel_rfl) (by kernel_rfl) (by kernel_rfl) (by exact fun _ _ _ h => h) (Or.inl ⟨by rfl, ?_⟩) (HM.out _ (Below.refl _ _)) ?_
                  rotate_left
                  · (intro w' hSw; (try dsimp only at hSw); go_simp; try with_reducible rfl)
                  try simp only [Act.put, List.setIfInBounds_toArray, List.set_cons_zero, List.set_cons_succ]
                  refine wpAnyM_take (i := 6) (v := ?_) (arr_get rfl) (by kernel_rfl) (by kernel_rfl) (by kernel_rfl) (by kernel_rfl) (by exact fun _ _ _ h => h) (Or.inl ⟨by rfl, ?_⟩) (HM.out _ (Below.refl _ _)) ?_
                  rotate_left
                  · (intro w' hSw; (try dsimp only at hSw); go_simp; try with_reducible rfl)
                  try simp only [Act.put, List.setIfInBounds_toArray, List.set_cons_zero, List.set_cons_succ]
                  refine wpAnyM_take (i := 7) (v := ?_) (arr_get rfl) (by kernel_rfl) (by kernel_rfl) (by kernel_rfl) (by kernel_rfl) (by exact fun _ _ _ h => h) (Or.inl ⟨by rfl, ?_⟩) (HM.out _ (Below.refl _ _)) ?_
                  rotate_left
                  · (intro w' hSw; (try dsimp only at hSw); go_simp; try with_reducible rfl)
                  try simp only [Act.put, List.setIfInBounds_toArray, List.set_cons_zero, List.set_cons_succ]
                  refine wpAnyM_take (i := 8) (v := ?_) (arr_get rfl) (by kernel_rfl) (by kernel_rfl) (by kernel_rfl) (by kernel_rfl) (by exact fun _ _ _ h => h) (Or.inl ⟨by rfl, ?_⟩) (HM.out _ (Below.refl _ _)) ?_
                  rotate_left
                  · (intro w' hSw; (try dsimp only at hSw); go_simp; try with_reducible rfl)
                  try simp only [Act.put, List.setIfInBounds_toArray, List.set_cons_zero, List.set_cons_succ]
                  refine wpAnyM_take (i := 9) (v := undef) (arr_get rfl) (by kernel_rfl) (by kernel_rfl) (by kernel_rfl) (by kernel_rfl) (by exact fun _ _ _ h => h) (Or.inr ⟨by rfl, rfl⟩) (HM.out _ (Below.refl _ _)) ?_
                  try simp only [Act.put, List.setIfInBounds_toArray, List.set_cons_zero, List.set_cons_succ]
                  refine wpAnyM_take (i := 10) (v := undef) (arr_get rfl) (by kernel_rfl) (by kernel_rfl) (by kernel_rfl) (by kernel_rfl) (by exact fun _ _ _ h => h) (Or.inr ⟨by rfl, rfl⟩) (HM.out _ (Below.refl _ _)) ?_
                  try simp only [Act.put, List.setIfInBounds_toArray, List.set_cons_zero, List.set_cons_succ]
                  refine wpAnyM_take (i := 11) (v := undef) (arr_get rfl) (by kernel_rfl) (by kernel_rfl) (by kernel_rfl) (by kernel_rfl) (by exact fun _ _ _ h => h) (Or.inr ⟨by rfl, rfl⟩) (HM.out _ (Below.refl _ _)) ?_
                  try simp only [Act.put, List.setIfInBounds_toArray, List.set_cons_zero, List.set_cons_succ]
                  refine wpAnyM_take (i := 12) (v := undef) (arr_get rfl) (by kernel_rfl) (by kernel_rfl) (by kernel_rfl) (by kernel_rfl) (by exact fun _ _ _ h => h) (Or.inr ⟨by rfl, rfl⟩) (HM.out _ (Below.refl _ _)) ?_
                  try simp only [Act.put, List.setIfInBounds_toArray, List.set_cons_zero, List.set_cons_succ]
                  refine wpAnyM_take (i := 13) (v := undef) (arr_get rfl) (by kernel_rfl) (by kernel_rfl) (by kernel_rfl) (by kernel_rfl) (by exact fun _ _ _ h => h) (Or.inr ⟨by rfl, rfl⟩) (HM.out _ (Below.refl _ _)) ?_
                  try simp only [Act.put, List.setIfInBounds_toArray, List.set_cons_zero, List.set_cons_succ]
                  refine wpAnyM_take (i := 14) (v := undef) (arr_get rfl) (by kernel_rfl) (by kernel_rfl) (by kernel_rfl) (by kernel_rfl) (by exact fun _ _ _ h => h) (Or.inr ⟨by rfl, rfl⟩) (HM.out _ (Below.refl _ _)) ?_
                  try simp only [Act.put, List.setIfInBounds_toArray, List.set_cons_zero, List.set_cons_succ]
                  refine wpAnyM_take (i := 15) (v := ?_) (arr_get rfl) (by kernel_rfl) (by kernel_rfl) (by kernel_rfl) (by kernel_rfl) (by exact fun _ _ _ h => h) (Or.inl ⟨by rfl, ?_⟩) (HM.out _ (Below.refl _ _)) ?_
                  rotate_left
                  · (intro w' hSw; (try dsimp only at hSw); go_simp; try with_reducible rfl)
                  try simp only [Act.put, List.setIfInBounds_toArray, List.set_cons_zero, List.set_cons_succ]
                  refine wpAnyM_take (i := 16) (v := ?_) (arr_get rfl) (by kernel_rfl) (by kernel_rfl) (by kernel_rfl) (by kernel_rfl) (by exact fun _ _ _ h => h) (Or.inl ⟨by rfl, ?_⟩) (HM.out _ (Below.refl _ _)) ?_
                  rotate_left
                  · (intro w' hSw; (try dsimp only at hSw); go_simp; try with_reducible rfl)
                  try simp only [Act.put, List.setIfInBounds_toArray, List.set_cons_zero, List.set_cons_succ]
                  refine wpAnyM_take (i := 17) (v := undef) (arr_get rfl) (by kernel_rfl) (by kernel_rfl) (by kernel_rfl) (by kernel_rfl) (by exact fun _ _ _ h => h) (Or.inr ⟨by rfl, rfl⟩) (HM.out _ (Below.refl _ _)) ?_
                  try simp only [Act.put, List.setIfInBounds_toArray, List.set_cons_zero, List.set_cons_succ]
                  refine wpAnyM_take (i := 18) (v := undef) (arr_get rfl) (by kernel_rfl) (by kernel_rfl) (by kernel_rfl) (by kernel_rfl) (by exact fun _ _ _ h => h) (Or.inr ⟨by rfl, rfl⟩) (HM.out _ (Below.refl _ _)) ?_
                  try simp only [Act.put, List.setIfInBounds_toArray, List.set_cons_zero, List.set_cons_succ]
                  refine wpAnyM_take (i := 19) (v := undef) (arr_get rfl) (by kernel_rfl) (by kernel_rfl) (by kernel_rfl) (by kernel_rfl) (by exact fun _ _ _ h => h) (Or.inr ⟨by rfl, rfl⟩) (HM.out _ (Below.refl _ _)) ?_
                  try simp only [Act.put, List.setIfInBounds_toArray, List.set_cons_zero, List.set_cons_succ]
                  refine wpAnyM_take (i := 20) (v := undef) (arr_get rfl) (by kernel_rfl) (by kernel_rfl) (by kernel_rfl) (by kernel_rfl) (by exact fun _ _ _ h => h) (Or.inr ⟨by rfl, rfl⟩) (HM.out _ (Below.refl _ _)) ?_
                  try simp only [Act.put, List.setIfInBounds_toArray, List.set_cons_zero, List.set_cons_succ]
                  refine wpAnyM_take (i := 21) (v := undef) (arr_get rfl) (by kernel_rfl) (by kernel_rfl) (by kernel_rfl) (by kernel_rfl) (by exact fun _ _ _ h => h) (Or.inr ⟨by rfl, rfl⟩) (HM.out _ (Below.refl _ _)) ?_
                  try simp only [Act.put, List.setIfInBounds_toArray, List.set_cons_zero, List.set_cons_succ]
                  refine wpAnyM_take (i := 22) (v := undef) (arr_get rfl) (by kernel_rfl) (by kernel_rfl) (by kernel_rfl) (by kernel_rfl) (by exact fun _ _ _ h => h) (Or.inr ⟨by rfl, rfl⟩) (HM.out _ (Below.refl _ _)) ?_
                  try simp only [Act.put, List.setIfInBounds_toArray, List.set_cons_zero, List.set_cons_succ]
                  refine wpAnyM_take (i := 23) (v := undef) (arr_get rfl) (by kernel_rfl) (by kernel_rfl) (by kernel_rfl) (by kernel_rfl) (by exact fun _ _ _ h => h) (Or.inr ⟨by rfl, rfl⟩) (HM.out _ (Below.refl _ _)) ?_
                  try simp only [Act.put, List.setIfInBounds_toArray, List.set_cons_zero, List.set_cons_succ]
                  refine wpAnyM_take (i := 24) (v := ?_) (arr_get rfl) (by kernel_rfl) (by kernel_rfl) (by kernel_rfl) (by kernel_rfl) (by exact fun _ _ _ h => h) (Or.inl ⟨by rfl, ?_⟩) (HM.out _ (Below.refl _ _)) ?_
                  rotate_left
                  · (intro w' hSw; (try dsimp only at hSw); go_simp; try with_reducible rfl)
                  try simp only [Act.put, List.setIfInBounds_toArray, List.set_cons_zero, List.set_cons_succ]
                  refine wpAnyM_done (by kernel_rfl) ?_ _
                  go_wp2_with fail
                  go_ret
                  refine ⟨?_, below_then (below_then H0B.out H0B.out.size hI.out.1) (by have := hI.out.1.size; have := H0B.out.size; omega) (below_then HBd.out HBd.out.size (Below.refl _ _))⟩
                  rw [HRF.out]
                  try rfl
                case neg =>
                  have db2 : decide (16383 < pr) = false := decide_eq_false b2
                  by_cases b3 : mkI g < (pkn : Int)
                  case pos =>
                    have db3 : decide (mkI g < (pkn : Int)) = true := decide_eq_true b3
                    have HRF := Aside0.mk (HNO.out (fun h => by unfold okK at h; rw [HGQ.out] at h; simp only at h; have := HQL.out; omega))
                    clear b1 b2 b3
                    refine wp_region_M (fun j => decide (j < 25)) (fun w' => w'.cell? ⟨M, 0, none⟩ = some (.slice pk pkn pkc) ∧ w'.cell? ⟨M, 1, none⟩ = some (.int .i64 pr)) (by kernel_rfl) ?_
                    rw [hv0]
                    clear hv0
                    refine wpAnyM_take (i := 0) (v := ?_) (arr_get rfl) (by kernel_rfl) (by kernel_rfl) (by kernel_rfl) (by kernel_rfl) (by exact fun _ _ _ h => h) (Or.inl ⟨by rfl, ?_⟩) (HM.out _ (Below.refl _ _)) ?_
                    rotate_left
                    · (intro w' hSw; (try dsimp only at hSw); go_simp; try with_reducible rfl)
                    try simp only [Act.put, List.setIfInBounds_toArray, List.set_cons_zero, List.set_cons_succ]
                    refine wpAnyM_take (i := 1) (v := ?_) (arr_get rfl) (by kernel_rfl) (by kernel_rfl) (by kernel_rfl) (by kernel_rfl) (by exact fun _ _ _ h => h) (Or.inl ⟨by rfl, ?_⟩) (HM.out _ (Below.refl _ _)) ?_
                    rotate_left
                    · (intro w' hSw; (try dsimp only at hSw); go_simp; try with_reducible rfl)
                    try simp only [Act.put, List.setIfInBounds_toArray, List.set_cons_zero, List.set_cons_succ]
                    refine wpAnyM_take (i := 2) (v := ?_) (arr_get rfl) (by kernel_rfl) (by kernel_rfl) (by kernel_rfl) (by kernel_rfl) (by exact fun _ _ _ h => h) (Or.inl ⟨by rfl, ?_⟩) (HM.out _ (Below.refl _ _)) ?_
                    rotate_left
                    · (intro w' hSw; (try dsimp only at hSw); go_simp; try with_reducible rfl)
                    try simp only [Act.put, List.setIfInBounds_toArray, List.set_cons_zero, List.set_cons_succ]
                    refine wpAnyM_take (i := 3) (v := ?_) (arr_get rfl) (by kernel_rfl) (by kernel_rfl) (by kernel_rfl) (by kernel_rfl) (by exact fun _ _ _ h => h) (Or.inl ⟨by rfl, ?_⟩) (HM.out _ (Below.refl _ _)) ?_
                    rotate_left
                    · (intro w' hSw; (try dsimp only at hSw); go_simp; try with_reducible rfl)
                    try simp only [Act.put, List.setIfInBounds_toArray, List.set_cons_zero, List.set_cons_succ]
                    refine wpAnyM_take (i := 4) (v := ?_) (arr_get rfl) (by kernel_rfl) (by kernel_rfl) (by kernel_rfl) (by kernel_rfl) (by exact fun _ _ _ h => h) (Or.inl ⟨by rfl, ?_⟩) (HM.out _ (Below.refl _ _)) ?_
                    rotate_left
                    · (intro w' hSw; (try dsimp only at hSw); go_simp; try with_reducible rfl)
                    try simp only [Act.put, List.setIfInBounds_toArray, List.set_cons_zero, List.set_cons_succ]
                    refine wpAnyM_take (i := 5) (v := ?_) (arr_get rfl) (by kernel_rfl) (by kernel_rfl) (by kernel_rfl) (by kernel_rfl) (by exact fun _ _ _ h => h) (Or.inl ⟨by rfl, ?_⟩) (HM.out _ (Below.refl _ _)) ?_
                    rotate_left
                    · (intro w' hSw; (try dsimp only at hSw); go_simp; try with_reducible rfl)
                    try simp only [Act.put, List.setIfInBounds_toArray, List.set_cons_zero, List.set_cons_succ]
                    refine wpAnyM_take (i := 6) (v := ?_) (arr_get rfl) (by kernel_rfl) (by kernel_rfl) (by kernel_rfl) (by kernel_rfl) (by exact fun _ _ _ h => h) (Or.inl ⟨by rfl, ?_⟩) (HM.out _ (Below.refl _ _)) ?_
                    rotate_left
                    · (intro w' hSw; (try dsimp only at hSw); go_simp; try with_reducible rfl)
                    try simp only [Act.put, List.setIfInBounds_toArray, List.set_cons_zero, List.set_cons_succ]
                    refine wpAnyM_take (i := 7) (v := ?_) (arr_get rfl) (by kernel_rfl) (by kernel_rfl) (by kernel_rfl) (by kernel_rfl) (by exact fun _ _ _ h => h) (Or.inl ⟨by rfl, ?_⟩) (HM.out _ (Below.refl _ _)) ?_
                    rotate_left
                    · (intro w' hSw; (try dsimp only at hSw); go_simp; try with_reducible rfl)
                    try simp only [Act.put, List.setIfInBounds_toArray, List.set_cons_zero, List.set_cons_succ]
                    refine wpAnyM_take (i := 8) (v := ?_) (arr_get rfl) (by kernel_rfl) (by kernel_rfl) (by kernel_rfl) (by kernel_rfl) (by exact fun _ _ _ h => h) (Or.inl ⟨by rfl, ?_⟩) (HM.out _ (Below.refl _ _)) ?_
                    rotate_left
                    · (intro w' hSw; (try dsimp only at hSw); go_simp; try with_reducible rfl)
                    try simp only [Act.put, List.setIfInBounds_toArray, List.set_cons_zero, List.set_cons_succ]
                    refine wpAnyM_take (i := 9) (v := ?_) (arr_get rfl) (by kernel_rfl) (by kernel_rfl) (by kernel_rfl) (by kernel_rfl) (by exact fun _ _ _ h => h) (Or.inl ⟨by rfl, ?_⟩) (HM.out _ (Below.refl _ _)) ?_
                    rotate_left
                    · (intro w' hSw; (try dsimp only at hSw); go_simp; try with_reducible rfl)
                    try simp only [Act.put, List.setIfInBounds_toArray, List.set_cons_zero, List.set_cons_succ]
                    refine wpAnyM_take (i := 10) (v := ?_) (arr_get rfl) (by kernel_rfl) (by kernel_rfl) (by kernel_rfl) (by kernel_rfl) (by exact fun _ _ _ h => h) (Or.inl ⟨by rfl, ?_⟩) (HM.out _ (Below.refl _ _)) ?_
                    rotate_left
                    · (intro w' hSw; (try dsimp only at hSw); go_simp; try with_reducible rfl)
                    try simp only [Act.put, List.setIfInBounds_toArray, List.set_cons_zero, List.set_cons_succ]
                    refine wpAnyM_take (i := 11) (v := ?_) (arr_get rfl) (by kernel_rfl) (by kernel_rfl) (by kernel_rfl) (by kernel_rfl) (by exact fun _ _ _ h => h) (Or.inl ⟨by rfl, ?_⟩) (HM.out _ (Below.refl _ _)) ?_
                    rotate_left
                    · (intro w' hSw; (try dsimp only at hSw); go_simp; try with_reducible rfl)
                    try simp only [Act.put, List.setIfInBounds_toArray, List.set_cons_zero, List.set_cons_succ]
                    refine wpAnyM_take (i := 12) (v := ?_) (arr_get rfl) (by kernel_rfl) (by kernel_rfl) (by kernel_rfl) (by kernel_rfl) (by exact fun _ _ _ h => h) (Or.inl ⟨by rfl, ?_⟩) (HM.out _ (Below.refl _ _)) ?_
                    rotate_left
                    · (intro w' hSw; (try dsimp only at hSw); go_simp; try with_reducible rfl)
                    try simp only [Act.put, List.setIfInBounds_toArray, List.set_cons_zero, List.set_cons_succ]
                    refine wpAnyM_one (i := 13) (by kernel_rfl) (arr_get rfl) ?_
                    go_wp2_with (go_at_call 80; refine (rMaxKey_any g v0).mono ?_; rintro e v9 ⟨rfl, rfl⟩)
                    refine ⟨HM.out _ (Below.refl _ _), ?_⟩
                    try simp only [Act.put, List.setIfInBounds_toArray, List.set_cons_zero, List.set_cons_succ]
                    refine wpAnyM_take (i := 14) (v := ?_) (arr_get rfl) (by kernel_rfl) (by kernel_rfl) (by kernel_rfl) (by kernel_rfl) (by exact fun _ _ _ h => h) (Or.inl ⟨by rfl, ?_⟩) (HM.out _ (Below.refl _ _)) ?_
                    rotate_left
                    · (intro w' hSw; (try dsimp only at hSw); go_simp; try with_reducible rfl)
                    try simp only [Act.put, List.setIfInBounds_toArray, List.set_cons_zero, List.set_cons_succ]
                    refine wpAnyM_take (i := 15) (v := ?_) (arr_get rfl) (by kernel_rfl) (by kernel_rfl) (by kernel_rfl) (by kernel_rfl) (by exact fun _ _ _ h => h) (Or.inl ⟨by rfl, ?_⟩) (HM.out _ (Below.refl _ _)) ?_
                    rotate_left
                    · (intro w' hSw; (try dsimp only at hSw); go_simp; try with_reducible rfl)
                    try simp only [Act.put, List.setIfInBounds_toArray, List.set_cons_zero, List.set_cons_succ]
                    refine wpAnyM_take (i := 16) (v := ?_) (arr_get rfl) (by kernel_rfl) (by kernel_rfl) (by kernel_rfl) (by kernel_rfl) (by exact fun _ _ _ h => h) (Or.inl ⟨by rfl, ?_⟩) (HM.out _ (Below.refl _ _)) ?_
                    rotate_left
                    · (intro w' hSw; (try dsimp only at hSw); go_simp; try with_reducible rfl)
                    try simp only [Act.put, List.setIfInBounds_toArray, List.set_cons_zero, List.set_cons_succ]
                    refine wpAnyM_take (i := 17) (v := undef) (arr_get rfl) (by kernel_rfl) (by kernel_rfl) (by kernel_rfl) (by kernel_rfl) (by exact fun _ _ _ h => h) (Or.inr ⟨by rfl, rfl⟩) (HM.out _ (Below.refl _ _)) ?_
                    try simp only [Act.put, List.setIfInBounds_toArray, List.set_cons_zero, List.set_cons_succ]
                    refine wpAnyM_take (i := 18) (v := undef) (arr_get rfl) (by kernel_rfl) (by kernel_rfl) (by kernel_rfl) (by kernel_rfl) (by exact fun _ _ _ h => h) (Or.inr ⟨by rfl, rfl⟩) (HM.out _ (Below.refl _ _)) ?_
                    try simp only [Act.put, List.setIfInBounds_toArray, List.set_cons_zero, List.set_cons_succ]
                    refine wpAnyM_take (i := 19) (v := undef) (arr_get rfl) (by kernel_rfl) (by kernel_rfl) (by kernel_rfl) (by kernel_rfl) (by exact fun _ _ _ h => h) (Or.inr ⟨by rfl, rfl⟩) (HM.out _ (Below.refl _ _)) ?_
                    try simp only [Act.put, List.setIfInBounds_toArray, List.set_cons_zero, List.set_cons_succ]
                    refine wpAnyM_take (i := 20) (v := undef) (arr_get rfl) (by kernel_rfl) (by kernel_rfl) (by kernel_rfl) (by kernel_rfl) (by exact fun _ _ _ h => h) (Or.inr ⟨by rfl, rfl⟩) (HM.out _ (Below.refl _ _)) ?_
                    try simp only [Act.put, List.setIfInBounds_toArray, List.set_cons_zero, List.set_cons_succ]
                    refine wpAnyM_take (i := 21) (v := undef) (arr_get rfl) (by kernel_rfl) (by kernel_rfl) (by kernel_rfl) (by kernel_rfl) (by exact fun _ _ _ h => h) (Or.inr ⟨by rfl, rfl⟩) (HM.out _ (Below.refl _ _)) ?_
                    try simp only [Act.put, List.setIfInBounds_toArray, List.set_cons_zero, List.set_cons_succ]
                    refine wpAnyM_take (i := 22) (v := undef) (arr_get rfl) (by kernel_rfl) (by kernel_rfl) (by kernel_rfl) (by kernel_rfl) (by exact fun _ _ _ h => h) (Or.inr ⟨by rfl, rfl⟩) (HM.out _ (Below.refl _ _)) ?_
                    try simp only [Act.put, List.setIfInBounds_toArray, List.set_cons_zero, List.set_cons_succ]
                    refine wpAnyM_take (i := 23) (v := undef) (arr_get rfl) (by kernel_rfl) (by kernel_rfl) (by kernel_rfl) (by kernel_rfl) (by exact fun _ _ _ h => h) (Or.inr ⟨by rfl, rfl⟩) (HM.out _ (Below.refl _ _)) ?_
                    try simp only [Act.put, List.setIfInBounds_toArray, List.set_cons_zero, List.set_cons_succ]
                    refine wpAnyM_take (i := 24) (v := ?_) (arr_get rfl) (by kernel_rfl) (by kernel_rfl) (by kernel_rfl) (by kernel_rfl) (by exact fun _ _ _ h => h) (Or.inl ⟨by rfl, ?_⟩) (HM.out _ (Below.refl _ _)) ?_
                    rotate_left
                    · (intro w' hSw; (try dsimp only at hSw); go_simp; try with_reducible rfl)
                    try simp only [Act.put, List.setIfInBounds_toArray, List.set_cons_zero, List.set_cons_succ]
                    refine wpAnyM_done (by kernel_rfl) ?_ _
                    go_wp2_with fail
                    go_ret
                    refine ⟨?_, below_then (below_then H0B.out H0B.out.size hI.out.1) (by have := hI.out.1.size; have := H0B.out.size; omega) (below_then HBd.out HBd.out.size (Below.refl _ _))⟩
                    rw [HRF.out]
                    try rfl
                  case neg =>
                    have db3 : decide (mkI g < (pkn : Int)) = false := decide_eq_false b3
                    have HB3 := Aside0.mk (show 2 ≤ pr ∧ pr ≤ 16383 ∧ (pkn : Int) ≤ mkI g by omega)
                    clear b1 b2 b3
                    by_cases b4 : j = 0
                    case pos =>
                      have db4 : ((j : Int) == 0) = true := beq_iff_eq.2 (by omega)
                      have dg : decide (1 < (j : Int)) = false := decide_eq_false (by omega)
                      have dj1 : decide (1 < j) = false := decide_eq_false (by omega)
                      by_cases b5 : pkn = 0
                      case neg =>
                        have db5 : ((pkn : Int) == 0) = false := beq_eq_false_iff_ne.2 (by omega)
                        have HRF := Aside0.mk (HNO.out (fun h => by unfold okK at h; rw [HGQ.out] at h; simp only at h; have h1 := h.2.2.1.1 b4; have := HQL.out; omega))
                        clear b5 b4
                        refine wp_region_M (fun j => decide (j < 25)) (fun w' => w'.cell? ⟨M, 0, none⟩ = some (.slice pk pkn pkc) ∧ w'.cell? ⟨M, 1, none⟩ = some (.int .i64 pr)) (by kernel_rfl) ?_
                        rw [hv0]
                        clear hv0
                        refine wpAnyM_take (i := 0) (v := ?_) (arr_get rfl) (by kernel_rfl) (by kernel_rfl) (by kernel_rfl) (by kernel_rfl) (by exact fun _ _ _ h => h) (Or.inl ⟨by rfl, ?_⟩) (HM.out _ (Below.refl _ _)) ?_
                        rotate_left
                        · (intro w' hSw; (try dsimp only at hSw); go_simp; try with_reducible rfl)
                        try simp only [Act.put, List.setIfInBounds_toArray, List.set_cons_zero, List.set_cons_succ]
                        refine wpAnyM_take (i := 1) (v := ?_) (arr_get rfl) (by kernel_rfl) (by kernel_rfl) (by kernel_rfl) (by kernel_rfl) (by exact fun _ _ _ h => h) (Or.inl ⟨by rfl, ?_⟩) (HM.out _ (Below.refl _ _)) ?_
                        rotate_left
                        · (intro w' hSw; (try dsimp only at hSw); go_simp; try with_reducible rfl)
                        try simp only [Act.put, List.setIfInBounds_toArray, List.set_cons_zero, List.set_cons_succ]
                        refine wpAnyM_take (i := 2) (v := ?_) (arr_get rfl) (by kernel_rfl) (by kernel_rfl) (by kernel_rfl) (by kernel_rfl) (by exact fun _ _ _ h => h) (Or.inl ⟨by rfl, ?_⟩) (HM.out _ (Below.refl _ _)) ?_
                        rotate_left
                        · (intro w' hSw; (try dsimp only at hSw); go_simp; try with_reducible rfl)
                        try simp only [Act.put, List.setIfInBounds_toArray, List.set_cons_zero, List.set_cons_succ]
                        refine wpAnyM_take (i := 3) (v := ?_) (arr_get rfl) (by kernel_rfl) (by kernel_rfl) (by kernel_rfl) (by kernel_rfl) (by exact fun _ _ _ h => h) (Or.inl ⟨by rfl, ?_⟩) (HM.out _ (Below.refl _ _)) ?_
                        rotate_left
                        · (intro w' hSw; (try dsimp only at hSw); go_simp; try with_reducible rfl)
                        try simp only [Act.put, List.setIfInBounds_toArray, List.set_cons_zero, List.set_cons_succ]
                        refine wpAnyM_take (i := 4) (v := ?_) (arr_get rfl) (by kernel_rfl) (by kernel_rfl) (by kernel_rfl) (by kernel_rfl) (by exact fun _ _ _ h => h) (Or.inl ⟨by rfl, ?_⟩) (HM.out _ (Below.refl _ _)) ?_
                        rotate_left
                        · (intro w' hSw; (try dsimp only at hSw); go_simp; try with_reducible rfl)
                        try simp only [Act.put, List.setIfInBounds_toArray, List.set_cons_zero, List.set_cons_succ]
                        refine wpAnyM_take (i := 5) (v := ?_) (arr_get rfl) (by kernel_rfl) (by kernel_rfl) (by kernel_rfl) (by kernel_rfl) (by exact fun _ _ _ h => h) (Or.inl ⟨by rfl, ?_⟩) (HM.out _ (Below.refl _ _)) ?_
                        rotate_left
                        · (intro w' hSw; (try dsimp only at hSw); go_simp; try with_reducible rfl)
                        try simp only [Act.put, List.setIfInBounds_toArray, List.set_cons_zero, List.set_cons_succ]
                        refine wpAnyM_take (i := 6) (v := ?_) (arr_get rfl) (by kernel_rfl) (by kernel_rfl) (by kernel_rfl) (by kernel_rfl) (by exact fun _ _ _ h => h) (Or.inl ⟨by rfl, ?_⟩) (HM.out _ (Below.refl _ _)) ?_
                        rotate_left
                        · (intro w' hSw; (try dsimp only at hSw); go_simp; try with_reducible rfl)
                        try simp only [Act.put, List.setIfInBounds_toArray, List.set_cons_zero, List.set_cons_succ]
                        refine wpAnyM_take (i := 7) (v := ?_) (arr_get rfl) (by kernel_rfl) (by kernel_rfl) (by kernel_rfl) (by kernel_rfl) (by exact fun _ _ _ h => h) (Or.inl ⟨by rfl, ?_⟩) (HM.out _ (Below.refl _ _)) ?_
                        rotate_left
                        · (intro w' hSw; (try dsimp only at hSw); go_simp; try with_reducible rfl)
                        try simp only [Act.put, List.setIfInBounds_toArray, List.set_cons_zero, List.set_cons_succ]
                        refine wpAnyM_take (i := 8) (v := ?_) (arr_get rfl) (by kernel_rfl) (by kernel_rfl) (by kernel_rfl) (by kernel_rfl) (by exact fun _ _ _ h => h) (Or.inl ⟨by rfl, ?_⟩) (HM.out _ (Below.refl _ _)) ?_
                        rotate_left
                        · (intro w' hSw; (try dsimp only at hSw); go_simp; try with_reducible rfl)
                        try simp only [Act.put, List.setIfInBounds_toArray, List.set_cons_zero, List.set_cons_succ]
                        refine wpAnyM_take (i := 9) (v := ?_) (arr_get rfl) (by kernel_rfl) (by kernel_rfl) (by kernel_rfl) (by kernel_rfl) (by exact fun _ _ _ h => h) (Or.inl ⟨by rfl, ?_⟩) (HM.out _ (Below.refl _ _)) ?_
                        rotate_left
                        · (intro w' hSw; (try dsimp only at hSw); go_simp; try with_reducible rfl)
                        try simp only [Act.put, List.setIfInBounds_toArray, List.set_cons_zero, List.set_cons_succ]
                        refine wpAnyM_take (i := 10) (v := ?_) (arr_get rfl) (by kernel_rfl) (by kernel_rfl) (by kernel_rfl) (by kernel_rfl) (by exact fun _ _ _ h => h) (Or.inl ⟨by rfl, ?_⟩) (HM.out _ (Below.refl _ _)) ?_
                        rotate_left
                        · (intro w' hSw; (try dsimp only at hSw); go_simp; try with_reducible rfl)
                        try simp only [Act.put, List.setIfInBounds_toArray, List.set_cons_zero, List.set_cons_succ]
                        refine wpAnyM_take (i := 11) (v := ?_) (arr_get rfl) (by kernel_rfl) (by kernel_rfl) (by kernel_rfl) (by kernel_rfl) (by exact fun _ _ _ h => h) (Or.inl ⟨by rfl, ?_⟩) (HM.out _ (Below.refl _ _)) ?_
                        rotate_left
                        · (intro w' hSw; (try dsimp only at hSw); go_simp; try with_reducible rfl)
                        try simp only [Act.put, List.setIfInBounds_toArray, List.set_cons_zero, List.set_cons_succ]
                        refine wpAnyM_take (i := 12) (v := ?_) (arr_get rfl) (by kernel_rfl) (by kernel_rfl) (by kernel_rfl) (by kernel_rfl) (by exact fun _ _ _ h => h) (Or.inl ⟨by rfl, ?_⟩) (HM.out _ (Below.refl _ _)) ?_
                        rotate_left
                        · (intro w' hSw; (try dsimp only at hSw); go_simp; try with_reducible rfl)
                        try simp only [Act.put, List.setIfInBounds_toArray, List.set_cons_zero, List.set_cons_succ]
                        refine wpAnyM_one (i := 13) (by kernel_rfl) (arr_get rfl) ?_
                        go_wp2_with (go_at_call 80; refine (rMaxKey_any g v0).mono ?_; rintro e v9 ⟨rfl, rfl⟩)
                        refine ⟨HM.out _ (Below.refl _ _), ?_⟩
                        try simp only [Act.put, List.setIfInBounds_toArray, List.set_cons_zero, List.set_cons_succ]
                        refine wpAnyM_take (i := 14) (v := ?_) (arr_get rfl) (by kernel_rfl) (by kernel_rfl) (by kernel_rfl) (by kernel_rfl) (by exact fun _ _ _ h => h) (Or.inl ⟨by rfl, ?_⟩) (HM.out _ (Below.refl _ _)) ?_
                        rotate_left
                        · (intro w' hSw; (try dsimp only at hSw); go_simp; try with_reducible rfl)
                        try simp only [Act.put, List.setIfInBounds_toArray, List.set_cons_zero, List.set_cons_succ]
                        refine wpAnyM_take (i := 15) (v := ?_) (arr_get rfl) (by kernel_rfl) (by kernel_rfl) (by kernel_rfl) (by kernel_rfl) (by exact fun _ _ _ h => h) (Or.inl ⟨by rfl, ?_⟩) (HM.out _ (Below.refl _ _)) ?_
                        rotate_left
                        · (intro w' hSw; (try dsimp only at hSw); go_simp; try with_reducible rfl)
                        try simp only [Act.put, List.setIfInBounds_toArray, List.set_cons_zero, List.set_cons_succ]
                        refine wpAnyM_take (i := 16) (v := ?_) (arr_get rfl) (by kernel_rfl) (by kernel_rfl) (by kernel_rfl) (by kernel_rfl) (by exact fun _ _ _ h => h) (Or.inl ⟨by rfl, ?_⟩) (HM.out _ (Below.refl _ _)) ?_
                        rotate_left
                        · (intro w' hSw; (try dsimp only at hSw); go_simp; try with_reducible rfl)
                        try simp only [Act.put, List.setIfInBounds_toArray, List.set_cons_zero, List.set_cons_succ]
                        refine wpAnyM_take (i := 17) (v := ?_) (arr_get rfl) (by kernel_rfl) (by kernel_rfl) (by kernel_rfl) (by kernel_rfl) (by exact fun _ _ _ h => h) (Or.inl ⟨by rfl, ?_⟩) (HM.out _ (Below.refl _ _)) ?_
                        rotate_left
                        · (intro w' hSw; (try dsimp only at hSw); go_simp; try with_reducible rfl)
                        try simp only [Act.put, List.setIfInBounds_toArray, List.set_cons_zero, List.set_cons_succ]
                        refine wpAnyM_take (i := 18) (v := ?_) (arr_get rfl) (by kernel_rfl) (by kernel_rfl) (by kernel_rfl) (by kernel_rfl) (by exact fun _ _ _ h => h) (Or.inl ⟨by rfl, ?_⟩) (HM.out _ (Below.refl _ _)) ?_
                        rotate_left
                        · (intro w' hSw; (try dsimp only at hSw); go_simp; try with_reducible rfl)
                        try simp only [Act.put, List.setIfInBounds_toArray, List.set_cons_zero, List.set_cons_succ]
                        refine wpAnyM_take (i := 19) (v := ?_) (arr_get rfl) (by kernel_rfl) (by kernel_rfl) (by kernel_rfl) (by kernel_rfl) (by exact fun _ _ _ h => h) (Or.inl ⟨by rfl, ?_⟩) (HM.out _ (Below.refl _ _)) ?_
                        rotate_left
                        · (intro w' hSw; (try dsimp only at hSw); go_simp; try with_reducible rfl)
                        try simp only [Act.put, List.setIfInBounds_toArray, List.set_cons_zero, List.set_cons_succ]
                        refine wpAnyM_take (i := 20) (v := ?_) (arr_get rfl) (by kernel_rfl) (by kernel_rfl) (by kernel_rfl) (by kernel_rfl) (by exact fun _ _ _ h => h) (Or.inl ⟨by rfl, ?_⟩) (HM.out _ (Below.refl _ _)) ?_
                        rotate_left
                        · (intro w' hSw; (try dsimp only at hSw); go_simp; try with_reducible rfl)
                        try simp only [Act.put, List.setIfInBounds_toArray, List.set_cons_zero, List.set_cons_succ]
                        refine wpAnyM_take (i := 21) (v := ?_) (arr_get rfl) (by kernel_rfl) (by kernel_rfl) (by kernel_rfl) (by kernel_rfl) (by exact fun _ _ _ h => h) (Or.inl ⟨by rfl, ?_⟩) (HM.out _ (Below.refl _ _)) ?_
                        rotate_left
                        · (intro w' hSw; (try dsimp only at hSw); go_simp; try with_reducible rfl)
                        try simp only [Act.put, List.setIfInBounds_toArray, List.set_cons_zero, List.set_cons_succ]
                        refine wpAnyM_take (i := 22) (v := ?_) (arr_get rfl) (by kernel_rfl) (by kernel_rfl) (by kernel_rfl) (by kernel_rfl) (by exact fun _ _ _ h => h) (Or.inl ⟨by rfl, ?_⟩) (HM.out _ (Below.refl _ _)) ?_
                        rotate_left
                        · (intro w' hSw; (try dsimp only at hSw); go_simp; try with_reducible rfl)
                        try simp only [Act.put, List.setIfInBounds_toArray, List.set_cons_zero, List.set_cons_succ]
                        refine wpAnyM_take (i := 23) (v := ?_) (arr_get rfl) (by kernel_rfl) (by kernel_rfl) (by kernel_rfl) (by kernel_rfl) (by exact fun _ _ _ h => h) (Or.inl ⟨by rfl, ?_⟩) (HM.out _ (Below.refl _ _)) ?_
                        rotate_left
                        · (intro w' hSw; (try dsimp only at hSw); go_simp; try with_reducible rfl)
                        try simp only [Act.put, List.setIfInBounds_toArray, List.set_cons_zero, List.set_cons_succ]
                        refine wpAnyM_take (i := 24) (v := ?_) (arr_get rfl) (by kernel_rfl) (by kernel_rfl) (by kernel_rfl) (by kernel_rfl) (by exact fun _ _ _ h => h) (Or.inl ⟨by rfl, ?_⟩) (HM.out _ (Below.refl _ _)) ?_
                        rotate_left
                        · (intro w' hSw; (try dsimp only at hSw); go_simp; try with_reducible rfl)
                        try simp only [Act.put, List.setIfInBounds_toArray, List.set_cons_zero, List.set_cons_succ]
                        refine wpAnyM_done (by kernel_rfl) ?_ _
                        go_wp2_with fail
                        go_ret
                        refine ⟨?_, below_then (below_then H0B.out H0B.out.size hI.out.1) (by have := hI.out.1.size; have := H0B.out.size; omega) (below_then HBd.out HBd.out.size (Below.refl _ _))⟩
                        rw [HRF.out]
                        try rfl
                      case pos =>
                        have db5 : ((pkn : Int) == 0) = true := beq_iff_eq.2 (by omega)
                        have HOK := Aside0.mk (show okK g v.kids j by
                          unfold okK
                          rw [HGQ.out]
                          have h1 := HB3.out
                          have h2 := HQL.out
                          exact ⟨⟨h1.1, h1.2.1⟩, by simp only; omega, ⟨fun _ => by simp only; omega, fun _ => b4⟩, fun i hi _ => by omega⟩)
                        clear b4 b5
                        refine wp_region_M (fun j => decide (j < 25)) (fun w' => w'.cell? ⟨M, 0, none⟩ = some (.slice pk pkn pkc) ∧ w'.cell? ⟨M, 1, none⟩ = some (.int .i64 pr)) (by kernel_rfl) ?_
                        rw [hv0]
                        clear hv0
                        refine wpAnyM_take (i := 0) (v := ?_) (arr_get rfl) (by kernel_rfl) (by kernel_rfl) (by kernel_rfl) (by kernel_rfl) (by exact fun _ _ _ h => h) (Or.inl ⟨by rfl, ?_⟩) (HM.out _ (Below.refl _ _)) ?_
                        rotate_left
                        · (intro w' hSw; (try dsimp only at hSw); go_simp; try with_reducible rfl)
                        try simp only [Act.put, List.setIfInBounds_toArray, List.set_cons_zero, List.set_cons_succ]
                        refine wpAnyM_take (i := 1) (v := ?_) (arr_get rfl) (by kernel_rfl) (by kernel_rfl) (by kernel_rfl) (by kernel_rfl) (by exact fun _ _ _ h => h) (Or.inl ⟨by rfl, ?_⟩) (HM.out _ (Below.refl _ _)) ?_
                        rotate_left
                        · (intro w' hSw; (try dsimp only at hSw); go_simp; try with_reducible rfl)
                        try simp only [Act.put, List.setIfInBounds_toArray, List.set_cons_zero, List.set_cons_succ]
                        refine wpAnyM_take (i := 2) (v := ?_) (arr_get rfl) (by kernel_rfl) (by kernel_rfl) (by kernel_rfl) (by kernel_rfl) (by exact fun _ _ _ h => h) (Or.inl ⟨by rfl, ?_⟩) (HM.out _ (Below.refl _ _)) ?_
                        rotate_left
                        · (intro w' hSw; (try dsimp only at hSw); go_simp; try with_reducible rfl)
                        try simp only [Act.put, List.setIfInBounds_toArray, List.set_cons_zero, List.set_cons_succ]
                        refine wpAnyM_take (i := 3) (v := ?_) (arr_get rfl) (by kernel_rfl) (by kernel_rfl) (by kernel_rfl) (by kernel_rfl) (by exact fun _ _ _ h => h) (Or.inl ⟨by rfl, ?_⟩) (HM.out _ (Below.refl _ _)) ?_
                        rotate_left
                        · (intro w' hSw; (try dsimp only at hSw); go_simp; try with_reducible rfl)
                        try simp only [Act.put, List.setIfInBounds_toArray, List.set_cons_zero, List.set_cons_succ]
                        refine wpAnyM_take (i := 4) (v := ?_) (arr_get rfl) (by kernel_rfl) (by kernel_rfl) (by kernel_rfl) (by kernel_rfl) (by exact fun _ _ _ h => h) (Or.inl ⟨by rfl, ?_⟩) (HM.out _ (Below.refl _ _)) ?_
                        rotate_left
                        · (intro w' hSw; (try dsimp only at hSw); go_simp; try with_reducible rfl)
                        try simp only [Act.put, List.setIfInBounds_toArray, List.set_cons_zero, List.set_cons_succ]
                        refine wpAnyM_take (i := 5) (v := ?_) (arr_get rfl) (by kernel_rfl) (by kernel_rfl) (by kernel_rfl) (by kernel_rfl) (by exact fun _ _ _ h => h) (Or.inl ⟨by rfl, ?_⟩) (HM.out _ (Below.refl _ _)) ?_
                        rotate_left
                        · (intro w' hSw; (try dsimp only at hSw); go_simp; try with_reducible rfl)
                        try simp only [Act.put, List.setIfInBounds_toArray, List.set_cons_zero, List.set_cons_succ]
                        refine wpAnyM_take (i := 6) (v := ?_) (arr_get rfl) (by kernel_rfl) (by kernel_rfl) (by kernel_rfl) (by kernel_rfl) (by exact fun _ _ _ h => h) (Or.inl ⟨by rfl, ?_⟩) (HM.out _ (Below.refl _ _)) ?_
                        rotate_left
                        · (intro w' hSw; (try dsimp only at hSw); go_simp; try with_reducible rfl)
                        try simp only [Act.put, List.setIfInBounds_toArray, List.set_cons_zero, List.set_cons_succ]
                        refine wpAnyM_take (i := 7) (v := ?_) (arr_get rfl) (by kernel_rfl) (by kernel_rfl) (by kernel_rfl) (by kernel_rfl) (by exact fun _ _ _ h => h) (Or.inl ⟨by rfl, ?_⟩) (HM.out _ (Below.refl _ _)) ?_
                        rotate_left
                        · (intro w' hSw; (try dsimp only at hSw); go_simp; try with_reducible rfl)
                        try simp only [Act.put, List.setIfInBounds_toArray, List.set_cons_zero, List.set_cons_succ]
                        refine wpAnyM_take (i := 8) (v := ?_) (arr_get rfl) (by kernel_rfl) (by kernel_rfl) (by kernel_rfl) (by kernel_rfl) (by exact fun _ _ _ h => h) (Or.inl ⟨by rfl, ?_⟩) (HM.out _ (Below.refl _ _)) ?_
                        rotate_left
                        · (intro w' hSw; (try dsimp only at hSw); go_simp; try with_reducible rfl)
                        try simp only [Act.put, List.setIfInBounds_toArray, List.set_cons_zero, List.set_cons_succ]
                        refine wpAnyM_take (i := 9) (v := ?_) (arr_get rfl) (by kernel_rfl) (by kernel_rfl) (by kernel_rfl) (by kernel_rfl) (by exact fun _ _ _ h => h) (Or.inl ⟨by rfl, ?_⟩) (HM.out _ (Below.refl _ _)) ?_
                        rotate_left
                        · (intro w' hSw; (try dsimp only at hSw); go_simp; try with_reducible rfl)
                        try simp only [Act.put, List.setIfInBounds_toArray, List.set_cons_zero, List.set_cons_succ]
                        refine wpAnyM_take (i := 10) (v := ?_) (arr_get rfl) (by kernel_rfl) (by kernel_rfl) (by kernel_rfl) (by kernel_rfl) (by exact fun _ _ _ h => h) (Or.inl ⟨by rfl, ?_⟩) (HM.out _ (Below.refl _ _)) ?_
                        rotate_left
                        · (intro w' hSw; (try dsimp only at hSw); go_simp; try with_reducible rfl)
                        try simp only [Act.put, List.setIfInBounds_toArray, List.set_cons_zero, List.set_cons_succ]
                        refine wpAnyM_take (i := 11) (v := ?_) (arr_get rfl) (by kernel_rfl) (by kernel_rfl) (by kernel_rfl) (by kernel_rfl) (by exact fun _ _ _ h => h) (Or.inl ⟨by rfl, ?_⟩) (HM.out _ (Below.refl _ _)) ?_
                        rotate_left
                        · (intro w' hSw; (try dsimp only at hSw); go_simp; try with_reducible rfl)
                        try simp only [Act.put, List.setIfInBounds_toArray, List.set_cons_zero, List.set_cons_succ]
                        refine wpAnyM_take (i := 12) (v := ?_) (arr_get rfl) (by kernel_rfl) (by kernel_rfl) (by kernel_rfl) (by kernel_rfl) (by exact fun _ _ _ h => h) (Or.inl ⟨by rfl, ?_⟩) (HM.out _ (Below.refl _ _)) ?_
                        rotate_left
                        · (intro w' hSw; (try dsimp only at hSw); go_simp; try with_reducible rfl)
                        try simp only [Act.put, List.setIfInBounds_toArray, List.set_cons_zero, List.set_cons_succ]
                        refine wpAnyM_one (i := 13) (by kernel_rfl) (arr_get rfl) ?_
                        go_wp2_with (go_at_call 80; refine (rMaxKey_any g v0).mono ?_; rintro e v9 ⟨rfl, rfl⟩)
                        refine ⟨HM.out _ (Below.refl _ _), ?_⟩
                        try simp only [Act.put, List.setIfInBounds_toArray, List.set_cons_zero, List.set_cons_succ]
                        refine wpAnyM_take (i := 14) (v := ?_) (arr_get rfl) (by kernel_rfl) (by kernel_rfl) (by kernel_rfl) (by kernel_rfl) (by exact fun _ _ _ h => h) (Or.inl ⟨by rfl, ?_⟩) (HM.out _ (Below.refl _ _)) ?_
                        rotate_left
                        · (intro w' hSw; (try dsimp only at hSw); go_simp; try with_reducible rfl)
                        try simp only [Act.put, List.setIfInBounds_toArray, List.set_cons_zero, List.set_cons_succ]
                        refine wpAnyM_take (i := 15) (v := ?_) (arr_get rfl) (by kernel_rfl) (by kernel_rfl) (by kernel_rfl) (by kernel_rfl) (by exact fun _ _ _ h => h) (Or.inl ⟨by rfl, ?_⟩) (HM.out _ (Below.refl _ _)) ?_
                        rotate_left
                        · (intro w' hSw; (try dsimp only at hSw); go_simp; try with_reducible rfl)
                        try simp only [Act.put, List.setIfInBounds_toArray, List.set_cons_zero, List.set_cons_succ]
                        refine wpAnyM_take (i := 16) (v := ?_) (arr_get rfl) (by kernel_rfl) (by kernel_rfl) (by kernel_rfl) (by kernel_rfl) (by exact fun _ _ _ h => h) (Or.inl ⟨by rfl, ?_⟩) (HM.out _ (Below.refl _ _)) ?_
                        rotate_left
                        · (intro w' hSw; (try dsimp only at hSw); go_simp; try with_reducible rfl)
                        try simp only [Act.put, List.setIfInBounds_toArray, List.set_cons_zero, List.set_cons_succ]
                        refine wpAnyM_take (i := 17) (v := ?_) (arr_get rfl) (by kernel_rfl) (by kernel_rfl) (by kernel_rfl) (by kernel_rfl) (by exact fun _ _ _ h => h) (Or.inl ⟨by rfl, ?_⟩) (HM.out _ (Below.refl _ _)) ?_
                        rotate_left
                        · (intro w' hSw; (try dsimp only at hSw); go_simp; try with_reducible rfl)
                        try simp only [Act.put, List.setIfInBounds_toArray, List.set_cons_zero, List.set_cons_succ]
                        refine wpAnyM_take (i := 18) (v := ?_) (arr_get rfl) (by kernel_rfl) (by kernel_rfl) (by kernel_rfl) (by kernel_rfl) (by exact fun _ _ _ h => h) (Or.inl ⟨by rfl, ?_⟩) (HM.out _ (Below.refl _ _)) ?_
                        rotate_left
                        · (intro w' hSw; (try dsimp only at hSw); go_simp; try with_reducible rfl)
                        try simp only [Act.put, List.setIfInBounds_toArray, List.set_cons_zero, List.set_cons_succ]
                        refine wpAnyM_take (i := 19) (v := ?_) (arr_get rfl) (by kernel_rfl) (by kernel_rfl) (by kernel_rfl) (by kernel_rfl) (by exact fun _ _ _ h => h) (Or.inl ⟨by rfl, ?_⟩) (HM.out _ (Below.refl _ _)) ?_
                        rotate_left
                        · (intro w' hSw; (try dsimp only at hSw); go_simp; try with_reducible rfl)
                        try simp only [Act.put, List.setIfInBounds_toArray, List.set_cons_zero, List.set_cons_succ]
                        refine wpAnyM_take (i := 20) (v := ?_) (arr_get rfl) (by kernel_rfl) (by kernel_rfl) (by kernel_rfl) (by kernel_rfl) (by exact fun _ _ _ h => h) (Or.inl ⟨by rfl, ?_⟩) (HM.out _ (Below.refl _ _)) ?_
                        rotate_left
                        · (intro w' hSw; (try dsimp only at hSw); go_simp; try with_reducible rfl)
                        try simp only [Act.put, List.setIfInBounds_toArray, List.set_cons_zero, List.set_cons_succ]
                        refine wpAnyM_take (i := 21) (v := ?_) (arr_get rfl) (by kernel_rfl) (by kernel_rfl) (by kernel_rfl) (by kernel_rfl) (by exact fun _ _ _ h => h) (Or.inl ⟨by rfl, ?_⟩) (HM.out _ (Below.refl _ _)) ?_
                        rotate_left
                        · (intro w' hSw; (try dsimp only at hSw); go_simp; try with_reducible rfl)
                        try simp only [Act.put, List.setIfInBounds_toArray, List.set_cons_zero, List.set_cons_succ]
                        refine wpAnyM_take (i := 22) (v := ?_) (arr_get rfl) (by kernel_rfl) (by kernel_rfl) (by kernel_rfl) (by kernel_rfl) (by exact fun _ _ _ h => h) (Or.inl ⟨by rfl, ?_⟩) (HM.out _ (Below.refl _ _)) ?_
                        rotate_left
                        · (intro w' hSw; (try dsimp only at hSw); go_simp; try with_reducible rfl)
                        try simp only [Act.put, List.setIfInBounds_toArray, List.set_cons_zero, List.set_cons_succ]
                        refine wpAnyM_take (i := 23) (v := ?_) (arr_get rfl) (by kernel_rfl) (by kernel_rfl) (by kernel_rfl) (by kernel_rfl) (by exact fun _ _ _ h => h) (Or.inl ⟨by rfl, ?_⟩) (HM.out _ (Below.refl _ _)) ?_
                        rotate_left
                        · (intro w' hSw; (try dsimp only at hSw); go_simp; try with_reducible rfl)
                        try simp only [Act.put, List.setIfInBounds_toArray, List.set_cons_zero, List.set_cons_succ]
                        refine wpAnyM_take (i := 24) (v := ?_) (arr_get rfl) (by kernel_rfl) (by kernel_rfl) (by kernel_rfl) (by kernel_rfl) (by exact fun _ _ _ h => h) (Or.inl ⟨by rfl, ?_⟩) (HM.out _ (Below.refl _ _)) ?_
                        rotate_left
                        · (intro w' hSw; (try dsimp only at hSw); go_simp; try with_reducible rfl)
                        try simp only [Act.put, List.setIfInBounds_toArray, List.set_cons_zero, List.set_cons_succ]
                        refine wpAnyM_done (by kernel_rfl) ?_ _
                        go_upto_region 16 with fail
                        obtain ⟨x0, hx0⟩ : ∃ X, v0.drew = X := ⟨_, rfl⟩
                        have HBx := Aside0.mk (show Below v0.heap.size v0 x0 by rw [← hx0]; exact below_drew (Below.refl _ _))
                        have HT := Aside0.mk (show ∀ X : World, Below v0.heap.size v0 X → X.cell? ⟨N, 2, none⟩ = some (.slice (some ad) Kn Kc) ∧ X.cell? ⟨M, 0, none⟩ = some (.slice pk pkn pkc) from fun X hX => ⟨(HN2.out _ hX), (HM.out _ hX).1⟩)
                        refine wp_region_M (fun j => decide (j < 15)) (fun w' => w'.cell? ⟨N, 2, none⟩ = some (.slice (some ad) Kn Kc) ∧ w'.cell? ⟨M, 0, none⟩ = some (.slice pk pkn pkc)) (by kernel_rfl) ?_
                        rw [hx0]
                        clear hx0
                        refine wpAnyM_take (i := 0) (v := ?_) (arr_get rfl) (by kernel_rfl) (by kernel_rfl) (by kernel_rfl) (by kernel_rfl) (by exact fun _ _ _ h => h) (Or.inl ⟨by rfl, ?_⟩) (HT.out _ HBx.out) ?_
                        rotate_left
                        · (intro w' hSw; (try dsimp only at hSw); go_simp; try with_reducible rfl)
                        try simp only [Act.put, List.setIfInBounds_toArray, List.set_cons_zero, List.set_cons_succ]
                        refine wpAnyM_take (i := 1) (v := ?_) (arr_get rfl) (by kernel_rfl) (by kernel_rfl) (by kernel_rfl) (by kernel_rfl) (by exact fun _ _ _ h => h) (Or.inl ⟨by rfl, ?_⟩) (HT.out _ HBx.out) ?_
                        rotate_left
                        · (intro w' hSw; (try dsimp only at hSw); go_simp; try with_reducible rfl)
                        try simp only [Act.put, List.setIfInBounds_toArray, List.set_cons_zero, List.set_cons_succ]
                        refine wpAnyM_take (i := 2) (v := ?_) (arr_get rfl) (by kernel_rfl) (by kernel_rfl) (by kernel_rfl) (by kernel_rfl) (by exact fun _ _ _ h => h) (Or.inl ⟨by rfl, ?_⟩) (HT.out _ HBx.out) ?_
                        rotate_left
                        · (intro w' hSw; (try dsimp only at hSw); go_simp; try with_reducible rfl)
                        try simp only [Act.put, List.setIfInBounds_toArray, List.set_cons_zero, List.set_cons_succ]
                        refine wpAnyM_take (i := 3) (v := undef) (arr_get rfl) (by kernel_rfl) (by kernel_rfl) (by kernel_rfl) (by kernel_rfl) (by exact fun _ _ _ h => h) (Or.inr ⟨by rfl, rfl⟩) (HT.out _ HBx.out) ?_
                        try simp only [Act.put, List.setIfInBounds_toArray, List.set_cons_zero, List.set_cons_succ]
                        refine wpAnyM_take (i := 4) (v := undef) (arr_get rfl) (by kernel_rfl) (by kernel_rfl) (by kernel_rfl) (by kernel_rfl) (by exact fun _ _ _ h => h) (Or.inr ⟨by rfl, rfl⟩) (HT.out _ HBx.out) ?_
                        try simp only [Act.put, List.setIfInBounds_toArray, List.set_cons_zero, List.set_cons_succ]
                        refine wpAnyM_take (i := 5) (v := undef) (arr_get rfl) (by kernel_rfl) (by kernel_rfl) (by kernel_rfl) (by kernel_rfl) (by exact fun _ _ _ h => h) (Or.inr ⟨by rfl, rfl⟩) (HT.out _ HBx.out) ?_
                        try simp only [Act.put, List.setIfInBounds_toArray, List.set_cons_zero, List.set_cons_succ]
                        refine wpAnyM_take (i := 6) (v := undef) (arr_get rfl) (by kernel_rfl) (by kernel_rfl) (by kernel_rfl) (by kernel_rfl) (by exact fun _ _ _ h => h) (Or.inr ⟨by rfl, rfl⟩) (HT.out _ HBx.out) ?_
                        try simp only [Act.put, List.setIfInBounds_toArray, List.set_cons_zero, List.set_cons_succ]
                        refine wpAnyM_take (i := 7) (v := undef) (arr_get rfl) (by kernel_rfl) (by kernel_rfl) (by kernel_rfl) (by kernel_rfl) (by exact fun _ _ _ h => h) (Or.inr ⟨by rfl, rfl⟩) (HT.out _ HBx.out) ?_
                        try simp only [Act.put, List.setIfInBounds_toArray, List.set_cons_zero, List.set_cons_succ]
                        refine wpAnyM_take (i := 8) (v := undef) (arr_get rfl) (by kernel_rfl) (by kernel_rfl) (by kernel_rfl) (by kernel_rfl) (by exact fun _ _ _ h => h) (Or.inr ⟨by rfl, rfl⟩) (HT.out _ HBx.out) ?_
                        try simp only [Act.put, List.setIfInBounds_toArray, List.set_cons_zero, List.set_cons_succ]
                        refine wpAnyM_take (i := 9) (v := undef) (arr_get rfl) (by kernel_rfl) (by kernel_rfl) (by kernel_rfl) (by kernel_rfl) (by exact fun _ _ _ h => h) (Or.inr ⟨by rfl, rfl⟩) (HT.out _ HBx.out) ?_
                        try simp only [Act.put, List.setIfInBounds_toArray, List.set_cons_zero, List.set_cons_succ]
                        refine wpAnyM_take (i := 10) (v := undef) (arr_get rfl) (by kernel_rfl) (by kernel_rfl) (by kernel_rfl) (by kernel_rfl) (by exact fun _ _ _ h => h) (Or.inr ⟨by rfl, rfl⟩) (HT.out _ HBx.out) ?_
                        try simp only [Act.put, List.setIfInBounds_toArray, List.set_cons_zero, List.set_cons_succ]
                        refine wpAnyM_take (i := 11) (v := undef) (arr_get rfl) (by kernel_rfl) (by kernel_rfl) (by kernel_rfl) (by kernel_rfl) (by exact fun _ _ _ h => h) (Or.inr ⟨by rfl, rfl⟩) (HT.out _ HBx.out) ?_
                        try simp only [Act.put, List.setIfInBounds_toArray, List.set_cons_zero, List.set_cons_succ]
                        refine wpAnyM_take (i := 12) (v := undef) (arr_get rfl) (by kernel_rfl) (by kernel_rfl) (by kernel_rfl) (by kernel_rfl) (by exact fun _ _ _ h => h) (Or.inr ⟨by rfl, rfl⟩) (HT.out _ HBx.out) ?_
                        try simp only [Act.put, List.setIfInBounds_toArray, List.set_cons_zero, List.set_cons_succ]
                        refine wpAnyM_take (i := 13) (v := undef) (arr_get rfl) (by kernel_rfl) (by kernel_rfl) (by kernel_rfl) (by kernel_rfl) (by exact fun _ _ _ h => h) (Or.inr ⟨by rfl, rfl⟩) (HT.out _ HBx.out) ?_
                        try simp only [Act.put, List.setIfInBounds_toArray, List.set_cons_zero, List.set_cons_succ]
                        refine wpAnyM_take (i := 14) (v := ?_) (arr_get rfl) (by kernel_rfl) (by kernel_rfl) (by kernel_rfl) (by kernel_rfl) (by exact fun _ _ _ h => h) (Or.inl ⟨by rfl, ?_⟩) (HT.out _ HBx.out) ?_
                        rotate_left
                        · (intro w' hSw; (try dsimp only at hSw); go_simp; try with_reducible rfl)
                        try simp only [Act.put, List.setIfInBounds_toArray, List.set_cons_zero, List.set_cons_succ]
                        refine wpAnyM_done (by kernel_rfl) ?_ _
                        go_wp2_with fail
                        go_roundg (Kn - (j + 1))
                        case measure => have := hk.out; omega
                        case rel => exact ⟨j + 1, (by show Kn - (j + 1) + (j + 1) = Kn; omega), by go_num, ⟨below_then hI.out.1 hI.out.1.size (below_then HBd.out HBd.out.size HBx.out), fun i2 hi2 => by
                            rcases Nat.lt_or_ge i2 j with q | q
                            · exact hI.out.2 i2 q
                            · obtain rfl : i2 = j := by omega
                              exact HOK.out⟩⟩
                    case neg =>
                      have db4 : ((j : Int) == 0) = false := beq_eq_false_iff_ne.2 (by omega)
                      by_cases b5 : pkn = 0
                      case pos =>
                        have db5 : ((pkn : Int) == 0) = true := beq_iff_eq.2 (by omega)
                        have HRF := Aside0.mk (HNO.out (fun h => by unfold okK at h; rw [HGQ.out] at h; simp only at h; have h1 := h.2.2.1.2 (by rw [HQL.out]; exact b5); omega))
                        clear b4 b5
                        refine wp_region_M (fun j => decide (j < 25)) (fun w' => w'.cell? ⟨M, 0, none⟩ = some (.slice pk pkn pkc) ∧ w'.cell? ⟨M, 1, none⟩ = some (.int .i64 pr)) (by kernel_rfl) ?_
                        rw [hv0]
                        clear hv0
                        refine wpAnyM_take (i := 0) (v := ?_) (arr_get rfl) (by kernel_rfl) (by kernel_rfl) (by kernel_rfl) (by kernel_rfl) (by exact fun _ _ _ h => h) (Or.inl ⟨by rfl, ?_⟩) (HM.out _ (Below.refl _ _)) ?_
                        rotate_left
                        · (intro w' hSw; (try dsimp only at hSw); go_simp; try with_reducible rfl)
                        try simp only [Act.put, List.setIfInBounds_toArray, List.set_cons_zero, List.set_cons_succ]
                        refine wpAnyM_take (i := 1) (v := ?_) (arr_get rfl) (by kernel_rfl) (by kernel_rfl) (by kernel_rfl) (by kernel_rfl) (by exact fun _ _ _ h => h) (Or.inl ⟨by rfl, ?_⟩) (HM.out _ (Below.refl _ _)) ?_
                        rotate_left
                        · (intro w' hSw; (try dsimp only at hSw); go_simp; try with_reducible rfl)
                        try simp only [Act.put, List.setIfInBounds_toArray, List.set_cons_zero, List.set_cons_succ]
                        refine wpAnyM_take (i := 2) (v := ?_) (arr_get rfl) (by kernel_rfl) (by kernel_rfl) (by kernel_rfl) (by kernel_rfl) (by exact fun _ _ _ h => h) (Or.inl ⟨by rfl, ?_⟩) (HM.out _ (Below.refl _ _)) ?_
                        rotate_left
                        · (intro w' hSw; (try dsimp only at hSw); go_simp; try with_reducible rfl)
                        try simp only [Act.put, List.setIfInBounds_toArray, List.set_cons_zero, List.set_cons_succ]
                        refine wpAnyM_take (i := 3) (v := ?_) (arr_get rfl) (by kernel_rfl) (by kernel_rfl) (by kernel_rfl) (by kernel_rfl) (by exact fun _ _ _ h => h) (Or.inl ⟨by rfl, ?_⟩) (HM.out _ (Below.refl _ _)) ?_
                        rotate_left
                        · (intro w' hSw; (try dsimp only at hSw); go_simp; try with_reducible rfl)
                        try simp only [Act.put, List.setIfInBounds_toArray, List.set_cons_zero, List.set_cons_succ]
                        refine wpAnyM_take (i := 4) (v := ?_) (arr_get rfl) (by kernel_rfl) (by kernel_rfl) (by kernel_rfl) (by kernel_rfl) (by exact fun _ _ _ h => h) (Or.inl ⟨by rfl, ?_⟩) (HM.out _ (Below.refl _ _)) ?_
                        rotate_left
                        · (intro w' hSw; (try dsimp only at hSw); go_simp; try with_reducible rfl)
                        try simp only [Act.put, List.setIfInBounds_toArray, List.set_cons_zero, List.set_cons_succ]
                        refine wpAnyM_take (i := 5) (v := ?_) (arr_get rfl) (by kernel_rfl) (by kernel_rfl) (by kernel_rfl) (by kernel_rfl) (by exact fun _ _ _ h => h) (Or.inl ⟨by rfl, ?_⟩) (HM.out _ (Below.refl _ _)) ?_
                        rotate_left
                        · (intro w' hSw; (try dsimp only at hSw); go_simp; try with_reducible rfl)
                        try simp only [Act.put, List.setIfInBounds_toArray, List.set_cons_zero, List.set_cons_succ]
                        refine wpAnyM_take (i := 6) (v := ?_) (arr_get rfl) (by kernel_rfl) (by kernel_rfl) (by kernel_rfl) (by kernel_rfl) (by exact fun _ _ _ h => h) (Or.inl ⟨by rfl, ?_⟩) (HM.out _ (Below.refl _ _)) ?_
                        rotate_left
                        · (intro w' hSw; (try dsimp only at hSw); go_simp; try with_reducible rfl)
                        try simp only [Act.put, List.setIfInBounds_toArray, List.set_cons_zero, List.set_cons_succ]
                        refine wpAnyM_take (i := 7) (v := ?_) (arr_get rfl) (by kernel_rfl) (by kernel_rfl) (by kernel_rfl) (by kernel_rfl) (by exact fun _ _ _ h => h) (Or.inl ⟨by rfl, ?_⟩) (HM.out _ (Below.refl _ _)) ?_
                        rotate_left
                        · (intro w' hSw; (try dsimp only at hSw); go_simp; try with_reducible rfl)
                        try simp only [Act.put, List.setIfInBounds_toArray, List.set_cons_zero, List.set_cons_succ]
                        refine wpAnyM_take (i := 8) (v := ?_) (arr_get rfl) (by kernel_rfl) (by kernel_rfl) (by kernel_rfl) (by kernel_rfl) (by exact fun _ _ _ h => h) (Or.inl ⟨by rfl, ?_⟩) (HM.out _ (Below.refl _ _)) ?_
                        rotate_left
                        · (intro w' hSw; (try dsimp only at hSw); go_simp; try with_reducible rfl)
                        try simp only [Act.put, List.setIfInBounds_toArray, List.set_cons_zero, List.set_cons_succ]
                        refine wpAnyM_take (i := 9) (v := ?_) (arr_get rfl) (by kernel_rfl) (by kernel_rfl) (by kernel_rfl) (by kernel_rfl) (by exact fun _ _ _ h => h) (Or.inl ⟨by rfl, ?_⟩) (HM.out _ (Below.refl _ _)) ?_
                        rotate_left
                        · (intro w' hSw; (try dsimp only at hSw); go_simp; try with_reducible rfl)
                        try simp only [Act.put, List.setIfInBounds_toArray, List.set_cons_zero, List.set_cons_succ]
                        refine wpAnyM_take (i := 10) (v := ?_) (arr_get rfl) (by kernel_rfl) (by kernel_rfl) (by kernel_rfl) (by kernel_rfl) (by exact fun _ _ _ h => h) (Or.inl ⟨by rfl, ?_⟩) (HM.out _ (Below.refl _ _)) ?_
                        rotate_left
                        · (intro w' hSw; (try dsimp only at hSw); go_simp; try with_reducible rfl)
                        try simp only [Act.put, List.setIfInBounds_toArray, List.set_cons_zero, List.set_cons_succ]
                        refine wpAnyM_take (i := 11) (v := ?_) (arr_get rfl) (by kernel_rfl) (by kernel_rfl) (by kernel_rfl) (by kernel_rfl) (by exact fun _ _ _ h => h) (Or.inl ⟨by rfl, ?_⟩) (HM.out _ (Below.refl _ _)) ?_
                        rotate_left
                        · (intro w' hSw; (try dsimp only at hSw); go_simp; try with_reducible rfl)
                        try simp only [Act.put, List.setIfInBounds_toArray, List.set_cons_zero, List.set_cons_succ]
                        refine wpAnyM_take (i := 12) (v := ?_) (arr_get rfl) (by kernel_rfl) (by kernel_rfl) (by kernel_rfl) (by kernel_rfl) (by exact fun _ _ _ h => h) (Or.inl ⟨by rfl, ?_⟩) (HM.out _ (Below.refl _ _)) ?_
                        rotate_left
                        · (intro w' hSw; (try dsimp only at hSw); go_simp; try with_reducible rfl)
                        try simp only [Act.put, List.setIfInBounds_toArray, List.set_cons_zero, List.set_cons_succ]
                        refine wpAnyM_one (i := 13) (by kernel_rfl) (arr_get rfl) ?_
                        go_wp2_with (go_at_call 80; refine (rMaxKey_any g v0).mono ?_; rintro e v9 ⟨rfl, rfl⟩)
                        refine ⟨HM.out _ (Below.refl _ _), ?_⟩
                        try simp only [Act.put, List.setIfInBounds_toArray, List.set_cons_zero, List.set_cons_succ]
                        refine wpAnyM_take (i := 14) (v := ?_) (arr_get rfl) (by kernel_rfl) (by kernel_rfl) (by kernel_rfl) (by kernel_rfl) (by exact fun _ _ _ h => h) (Or.inl ⟨by rfl, ?_⟩) (HM.out _ (Below.refl _ _)) ?_
                        rotate_left
                        · (intro w' hSw; (try dsimp only at hSw); go_simp; try with_reducible rfl)
                        try simp only [Act.put, List.setIfInBounds_toArray, List.set_cons_zero, List.set_cons_succ]
                        refine wpAnyM_take (i := 15) (v := ?_) (arr_get rfl) (by kernel_rfl) (by kernel_rfl) (by kernel_rfl) (by kernel_rfl) (by exact fun _ _ _ h => h) (Or.inl ⟨by rfl, ?_⟩) (HM.out _ (Below.refl _ _)) ?_
                        rotate_left
                        · (intro w' hSw; (try dsimp only at hSw); go_simp; try with_reducible rfl)
                        try simp only [Act.put, List.setIfInBounds_toArray, List.set_cons_zero, List.set_cons_succ]
                        refine wpAnyM_take (i := 16) (v := ?_) (arr_get rfl) (by kernel_rfl) (by kernel_rfl) (by kernel_rfl) (by kernel_rfl) (by exact fun _ _ _ h => h) (Or.inl ⟨by rfl, ?_⟩) (HM.out _ (Below.refl _ _)) ?_
                        rotate_left
                        · (intro w' hSw; (try dsimp only at hSw); go_simp; try with_reducible rfl)
                        try simp only [Act.put, List.setIfInBounds_toArray, List.set_cons_zero, List.set_cons_succ]
                        refine wpAnyM_take (i := 17) (v := ?_) (arr_get rfl) (by kernel_rfl) (by kernel_rfl) (by kernel_rfl) (by kernel_rfl) (by exact fun _ _ _ h => h) (Or.inl ⟨by rfl, ?_⟩) (HM.out _ (Below.refl _ _)) ?_
                        rotate_left
                        · (intro w' hSw; (try dsimp only at hSw); go_simp; try with_reducible rfl)
                        try simp only [Act.put, List.setIfInBounds_toArray, List.set_cons_zero, List.set_cons_succ]
                        refine wpAnyM_take (i := 18) (v := ?_) (arr_get rfl) (by kernel_rfl) (by kernel_rfl) (by kernel_rfl) (by kernel_rfl) (by exact fun _ _ _ h => h) (Or.inl ⟨by rfl, ?_⟩) (HM.out _ (Below.refl _ _)) ?_
                        rotate_left
                        · (intro w' hSw; (try dsimp only at hSw); go_simp; try with_reducible rfl)
                        try simp only [Act.put, List.setIfInBounds_toArray, List.set_cons_zero, List.set_cons_succ]
                        refine wpAnyM_take (i := 19) (v := ?_) (arr_get rfl) (by kernel_rfl) (by kernel_rfl) (by kernel_rfl) (by kernel_rfl) (by exact fun _ _ _ h => h) (Or.inl ⟨by rfl, ?_⟩) (HM.out _ (Below.refl _ _)) ?_
                        rotate_left
                        · (intro w' hSw; (try dsimp only at hSw); go_simp; try with_reducible rfl)
                        try simp only [Act.put, List.setIfInBounds_toArray, List.set_cons_zero, List.set_cons_succ]
                        refine wpAnyM_take (i := 20) (v := ?_) (arr_get rfl) (by kernel_rfl) (by kernel_rfl) (by kernel_rfl) (by kernel_rfl) (by exact fun _ _ _ h => h) (Or.inl ⟨by rfl, ?_⟩) (HM.out _ (Below.refl _ _)) ?_
                        rotate_left
                        · (intro w' hSw; (try dsimp only at hSw); go_simp; try with_reducible rfl)
                        try simp only [Act.put, List.setIfInBounds_toArray, List.set_cons_zero, List.set_cons_succ]
                        refine wpAnyM_take (i := 21) (v := ?_) (arr_get rfl) (by kernel_rfl) (by kernel_rfl) (by kernel_rfl) (by kernel_rfl) (by exact fun _ _ _ h => h) (Or.inl ⟨by rfl, ?_⟩) (HM.out _ (Below.refl _ _)) ?_
                        rotate_left
                        · (intro w' hSw; (try dsimp only at hSw); go_simp; try with_reducible rfl)
                        try simp only [Act.put, List.setIfInBounds_toArray, List.set_cons_zero, List.set_cons_succ]
                        refine wpAnyM_take (i := 22) (v := ?_) (arr_get rfl) (by kernel_rfl) (by kernel_rfl) (by kernel_rfl) (by kernel_rfl) (by exact fun _ _ _ h => h) (Or.inl ⟨by rfl, ?_⟩) (HM.out _ (Below.refl _ _)) ?_
                        rotate_left
                        · (intro w' hSw; (try dsimp only at hSw); go_simp; try with_reducible rfl)
                        try simp only [Act.put, List.setIfInBounds_toArray, List.set_cons_zero, List.set_cons_succ]
                        refine wpAnyM_take (i := 23) (v := ?_) (arr_get rfl) (by kernel_rfl) (by kernel_rfl) (by kernel_rfl) (by kernel_rfl) (by exact fun _ _ _ h => h) (Or.inl ⟨by rfl, ?_⟩) (HM.out _ (Below.refl _ _)) ?_
                        rotate_left
                        · (intro w' hSw; (try dsimp only at hSw); go_simp; try with_reducible rfl)
                        try simp only [Act.put, List.setIfInBounds_toArray, List.set_cons_zero, List.set_cons_succ]
                        refine wpAnyM_take (i := 24) (v := ?_) (arr_get rfl) (by kernel_rfl) (by kernel_rfl) (by kernel_rfl) (by kernel_rfl) (by exact fun _ _ _ h => h) (Or.inl ⟨by rfl, ?_⟩) (HM.out _ (Below.refl _ _)) ?_
                        rotate_left
                        · (intro w' hSw; (try dsimp only at hSw); go_simp; try with_reducible rfl)
                        try simp only [Act.put, List.setIfInBounds_toArray, List.set_cons_zero, List.set_cons_succ]
                        refine wpAnyM_done (by kernel_rfl) ?_ _
                        go_wp2_with fail
                        go_ret
                        refine ⟨?_, below_then (below_then H0B.out H0B.out.size hI.out.1) (by have := hI.out.1.size; have := H0B.out.size; omega) (below_then HBd.out HBd.out.size (Below.refl _ _))⟩
                        rw [HRF.out]
                        try rfl
                      case neg =>
                        have db5 : ((pkn : Int) == 0) = false := beq_eq_false_iff_ne.2 (by omega)
                        by_cases b6 : 1 < j
                        case neg =>
                          have dg : decide (1 < (j : Int)) = false := decide_eq_false (by omega)
                          have dj1 : decide (1 < j) = false := decide_eq_false (by omega)
                          have HOK := Aside0.mk (show okK g v.kids j by
                            unfold okK
                            rw [HGQ.out]
                            have h1 := HB3.out
                            have h2 := HQL.out
                            exact ⟨⟨h1.1, h1.2.1⟩, by simp only; omega, ⟨fun h => by omega, fun h => by simp only at h; omega⟩, fun i hi h => by omega⟩)
                          clear b4 b5 b6
                          refine wp_region_M (fun j => decide (j < 25)) (fun w' => w'.cell? ⟨M, 0, none⟩ = some (.slice pk pkn pkc) ∧ w'.cell? ⟨M, 1, none⟩ = some (.int .i64 pr)) (by kernel_rfl) ?_
                          rw [hv0]
                          clear hv0
                          refine wpAnyM_take (i := 0) (v := ?_) (arr_get rfl) (by kernel_rfl) (by kernel_rfl) (by kernel_rfl) (by kernel_rfl) (by exact fun _ _ _ h => h) (Or.inl ⟨by rfl, ?_⟩) (HM.out _ (Below.refl _ _)) ?_
                          rotate_left
                          · (intro w' hSw; (try dsimp only at hSw); go_simp; try with_reducible rfl)
                          try simp only [Act.put, List.setIfInBounds_toArray, List.set_cons_zero, List.set_cons_succ]
                          refine wpAnyM_take (i := 1) (v := ?_) (arr_get rfl) (by kernel_rfl) (by kernel_rfl) (by kernel_rfl) (by kernel_rfl) (by exact fun _ _ _ h => h) (Or.inl ⟨by rfl, ?_⟩) (HM.out _ (Below.refl _ _)) ?_
                          rotate_left
                          · (intro w' hSw; (try dsimp only at hSw); go_simp; try with_reducible rfl)
                          try simp only [Act.put, List.setIfInBounds_toArray, List.set_cons_zero, List.set_cons_succ]
                          refine wpAnyM_take (i := 2) (v := ?_) (arr_get rfl) (by kernel_rfl) (by kernel_rfl) (by kernel_rfl) (by kernel_rfl) (by exact fun _ _ _ h => h) (Or.inl ⟨by rfl, ?_⟩) (HM.out _ (Below.refl _ _)) ?_
                          rotate_left
                          · (intro w' hSw; (try dsimp only at hSw); go_simp; try with_reducible rfl)
                          try simp only [Act.put, List.setIfInBounds_toArray, List.set_cons_zero, List.set_cons_succ]
                          refine wpAnyM_take (i := 3) (v := ?_) (arr_get rfl) (by kernel_rfl) (by kernel_rfl) (by kernel_rfl) (by kernel_rfl) (by exact fun _ _ _ h => h) (Or.inl ⟨by rfl, ?_⟩) (HM.out _ (Below.refl _ _)) ?_
                          rotate_left
                          · (intro w' hSw; (try dsimp only at hSw); go_simp; try with_reducible rfl)
                          try simp only [Act.put, List.setIfInBounds_toArray, List.set_cons_zero, List.set_cons_succ]
                          refine wpAnyM_take (i := 4) (v := ?_) (arr_get rfl) (by kernel_rfl) (by kernel_rfl) (by kernel_rfl) (by kernel_rfl) (by exact fun _ _ _ h => h) (Or.inl ⟨by rfl, ?_⟩) (HM.out _ (Below.refl _ _)) ?_
                          rotate_left
                          · (intro w' hSw; (try dsimp only at hSw); go_simp; try with_reducible rfl)
                          try simp only [Act.put, List.setIfInBounds_toArray, List.set_cons_zero, List.set_cons_succ]
                          refine wpAnyM_take (i := 5) (v := ?_) (arr_get rfl) (by kernel_rfl) (by kernel_rfl) (by kernel_rfl) (by kernel_rfl) (by exact fun _ _ _ h => h) (Or.inl ⟨by rfl, ?_⟩) (HM.out _ (Below.refl _ _)) ?_
                          rotate_left
                          · (intro w' hSw; (try dsimp only at hSw); go_simp; try with_reducible rfl)
                          try simp only [Act.put, List.setIfInBounds_toArray, List.set_cons_zero, List.set_cons_succ]
                          refine wpAnyM_take (i := 6) (v := ?_) (arr_get rfl) (by kernel_rfl) (by kernel_rfl) (by kernel_rfl) (by kernel_rfl) (by exact fun _ _ _ h => h) (Or.inl ⟨by rfl, ?_⟩) (HM.out _ (Below.refl _ _)) ?_
                          rotate_left
                          · (intro w' hSw; (try dsimp only at hSw); go_simp; try with_reducible rfl)
                          try simp only [Act.put, List.setIfInBounds_toArray, List.set_cons_zero, List.set_cons_succ]
                          refine wpAnyM_take (i := 7) (v := ?_) (arr_get rfl) (by kernel_rfl) (by kernel_rfl) (by kernel_rfl) (by kernel_rfl) (by exact fun _ _ _ h => h) (Or.inl ⟨by rfl, ?_⟩) (HM.out _ (Below.refl _ _)) ?_
                          rotate_left
                          · (intro w' hSw; (try dsimp only at hSw); go_simp; try with_reducible rfl)
                          try simp only [Act.put, List.setIfInBounds_toArray, List.set_cons_zero, List.set_cons_succ]
                          refine wpAnyM_take (i := 8) (v := ?_) (arr_get rfl) (by kernel_rfl) (by kernel_rfl) (by kernel_rfl) (by kernel_rfl) (by exact fun _ _ _ h => h) (Or.inl ⟨by rfl, ?_⟩) (HM.out _ (Below.refl _ _)) ?_
                          rotate_left
                          · (intro w' hSw; (try dsimp only at hSw); go_simp; try with_reducible rfl)
                          try simp only [Act.put, List.setIfInBounds_toArray, List.set_cons_zero, List.set_cons_succ]
                          refine wpAnyM_take (i := 9) (v := ?_) (arr_get rfl) (by kernel_rfl) (by kernel_rfl) (by kernel_rfl) (by kernel_rfl) (by exact fun _ _ _ h => h) (Or.inl ⟨by rfl, ?_⟩) (HM.out _ (Below.refl _ _)) ?_
                          rotate_left
                          · (intro w' hSw; (try dsimp only at hSw); go_simp; try with_reducible rfl)
                          try simp only [Act.put, List.setIfInBounds_toArray, List.set_cons_zero, List.set_cons_succ]
                          refine wpAnyM_take (i := 10) (v := ?_) (arr_get rfl) (by kernel_rfl) (by kernel_rfl) (by kernel_rfl) (by kernel_rfl) (by exact fun _ _ _ h => h) (Or.inl ⟨by rfl, ?_⟩) (HM.out _ (Below.refl _ _)) ?_
                          rotate_left
                          · (intro w' hSw; (try dsimp only at hSw); go_simp; try with_reducible rfl)
                          try simp only [Act.put, List.setIfInBounds_toArray, List.set_cons_zero, List.set_cons_succ]
                          refine wpAnyM_take (i := 11) (v := ?_) (arr_get rfl) (by kernel_rfl) (by kernel_rfl) (by kernel_rfl) (by kernel_rfl) (by exact fun _ _ _ h => h) (Or.inl ⟨by rfl, ?_⟩) (HM.out _ (Below.refl _ _)) ?_
                          rotate_left
                          · (intro w' hSw; (try dsimp only at hSw); go_simp; try with_reducible rfl)
                          try simp only [Act.put, List.setIfInBounds_toArray, List.set_cons_zero, List.set_cons_succ]
                          refine wpAnyM_take (i := 12) (v := ?_) (arr_get rfl) (by kernel_rfl) (by kernel_rfl) (by kernel_rfl) (by kernel_rfl) (by exact fun _ _ _ h => h) (Or.inl ⟨by rfl, ?_⟩) (HM.out _ (Below.refl _ _)) ?_
                          rotate_left
                          · (intro w' hSw; (try dsimp only at hSw); go_simp; try with_reducible rfl)
                          try simp only [Act.put, List.setIfInBounds_toArray, List.set_cons_zero, List.set_cons_succ]
                          refine wpAnyM_one (i := 13) (by kernel_rfl) (arr_get rfl) ?_
                          go_wp2_with (go_at_call 80; refine (rMaxKey_any g v0).mono ?_; rintro e v9 ⟨rfl, rfl⟩)
                          refine ⟨HM.out _ (Below.refl _ _), ?_⟩
                          try simp only [Act.put, List.setIfInBounds_toArray, List.set_cons_zero, List.set_cons_succ]
                          refine wpAnyM_take (i := 14) (v := ?_) (arr_get rfl) (by kernel_rfl) (by kernel_rfl) (by kernel_rfl) (by kernel_rfl) (by exact fun _ _ _ h => h) (Or.inl ⟨by rfl, ?_⟩) (HM.out _ (Below.refl _ _)) ?_
                          rotate_left
                          · (intro w' hSw; (try dsimp only at hSw); go_simp; try with_reducible rfl)
                          try simp only [Act.put, List.setIfInBounds_toArray, List.set_cons_zero, List.set_cons_succ]
                          refine wpAnyM_take (i := 15) (v := ?_) (arr_get rfl) (by kernel_rfl) (by kernel_rfl) (by kernel_rfl) (by kernel_rfl) (by exact fun _ _ _ h => h) (Or.inl ⟨by rfl, ?_⟩) (HM.out _ (Below.refl _ _)) ?_
                          rotate_left
                          · (intro w' hSw; (try dsimp only at hSw); go_simp; try with_reducible rfl)
                          try simp only [Act.put, List.setIfInBounds_toArray, List.set_cons_zero, List.set_cons_succ]
                          refine wpAnyM_take (i := 16) (v := ?_) (arr_get rfl) (by kernel_rfl) (by kernel_rfl) (by kernel_rfl) (by kernel_rfl) (by exact fun _ _ _ h => h) (Or.inl ⟨by rfl, ?_⟩) (HM.out _ (Below.refl _ _)) ?_
                          rotate_left
                          · (intro w' hSw; (try dsimp only at hSw); go_simp; try with_reducible rfl)
                          try simp only [Act.put, List.setIfInBounds_toArray, List.set_cons_zero, List.set_cons_succ]
                          refine wpAnyM_take (i := 17) (v := ?_) (arr_get rfl) (by kernel_rfl) (by kernel_rfl) (by kernel_rfl) (by kernel_rfl) (by exact fun _ _ _ h => h) (Or.inl ⟨by rfl, ?_⟩) (HM.out _ (Below.refl _ _)) ?_
                          rotate_left
                          · (intro w' hSw; (try dsimp only at hSw); go_simp; try with_reducible rfl)
                          try simp only [Act.put, List.setIfInBounds_toArray, List.set_cons_zero, List.set_cons_succ]
                          refine wpAnyM_take (i := 18) (v := ?_) (arr_get rfl) (by kernel_rfl) (by kernel_rfl) (by kernel_rfl) (by kernel_rfl) (by exact fun _ _ _ h => h) (Or.inl ⟨by rfl, ?_⟩) (HM.out _ (Below.refl _ _)) ?_
                          rotate_left
                          · (intro w' hSw; (try dsimp only at hSw); go_simp; try with_reducible rfl)
                          try simp only [Act.put, List.setIfInBounds_toArray, List.set_cons_zero, List.set_cons_succ]
                          refine wpAnyM_take (i := 19) (v := ?_) (arr_get rfl) (by kernel_rfl) (by kernel_rfl) (by kernel_rfl) (by kernel_rfl) (by exact fun _ _ _ h => h) (Or.inl ⟨by rfl, ?_⟩) (HM.out _ (Below.refl _ _)) ?_
                          rotate_left
                          · (intro w' hSw; (try dsimp only at hSw); go_simp; try with_reducible rfl)
                          try simp only [Act.put, List.setIfInBounds_toArray, List.set_cons_zero, List.set_cons_succ]
                          refine wpAnyM_take (i := 20) (v := ?_) (arr_get rfl) (by kernel_rfl) (by kernel_rfl) (by kernel_rfl) (by kernel_rfl) (by exact fun _ _ _ h => h) (Or.inl ⟨by rfl, ?_⟩) (HM.out _ (Below.refl _ _)) ?_
                          rotate_left
                          · (intro w' hSw; (try dsimp only at hSw); go_simp; try with_reducible rfl)
                          try simp only [Act.put, List.setIfInBounds_toArray, List.set_cons_zero, List.set_cons_succ]
                          refine wpAnyM_take (i := 21) (v := ?_) (arr_get rfl) (by kernel_rfl) (by kernel_rfl) (by kernel_rfl) (by kernel_rfl) (by exact fun _ _ _ h => h) (Or.inl ⟨by rfl, ?_⟩) (HM.out _ (Below.refl _ _)) ?_
                          rotate_left
                          · (intro w' hSw; (try dsimp only at hSw); go_simp; try with_reducible rfl)
                          try simp only [Act.put, List.setIfInBounds_toArray, List.set_cons_zero, List.set_cons_succ]
                          refine wpAnyM_take (i := 22) (v := ?_) (arr_get rfl) (by kernel_rfl) (by kernel_rfl) (by kernel_rfl) (by kernel_rfl) (by exact fun _ _ _ h => h) (Or.inl ⟨by rfl, ?_⟩) (HM.out _ (Below.refl _ _)) ?_
                          rotate_left
                          · (intro w' hSw; (try dsimp only at hSw); go_simp; try with_reducible rfl)
                          try simp only [Act.put, List.setIfInBounds_toArray, List.set_cons_zero, List.set_cons_succ]
                          refine wpAnyM_take (i := 23) (v := ?_) (arr_get rfl) (by kernel_rfl) (by kernel_rfl) (by kernel_rfl) (by kernel_rfl) (by exact fun _ _ _ h => h) (Or.inl ⟨by rfl, ?_⟩) (HM.out _ (Below.refl _ _)) ?_
                          rotate_left
                          · (intro w' hSw; (try dsimp only at hSw); go_simp; try with_reducible rfl)
                          try simp only [Act.put, List.setIfInBounds_toArray, List.set_cons_zero, List.set_cons_succ]
                          refine wpAnyM_take (i := 24) (v := ?_) (arr_get rfl) (by kernel_rfl) (by kernel_rfl) (by kernel_rfl) (by kernel_rfl) (by exact fun _ _ _ h => h) (Or.inl ⟨by rfl, ?_⟩) (HM.out _ (Below.refl _ _)) ?_
                          rotate_left
                          · (intro w' hSw; (try dsimp only at hSw); go_simp; try with_reducible rfl)
                          try simp only [Act.put, List.setIfInBounds_toArray, List.set_cons_zero, List.set_cons_succ]
                          refine wpAnyM_done (by kernel_rfl) ?_ _
                          go_upto_region 16 with fail
                          obtain ⟨x0, hx0⟩ : ∃ X, v0.drew = X := ⟨_, rfl⟩
                          have HBx := Aside0.mk (show Below v0.heap.size v0 x0 by rw [← hx0]; exact below_drew (Below.refl _ _))
                          have HT := Aside0.mk (show ∀ X : World, Below v0.heap.size v0 X → X.cell? ⟨N, 2, none⟩ = some (.slice (some ad) Kn Kc) ∧ X.cell? ⟨M, 0, none⟩ = some (.slice pk pkn pkc) from fun X hX => ⟨(HN2.out _ hX), (HM.out _ hX).1⟩)
                          refine wp_region_M (fun j => decide (j < 15)) (fun w' => w'.cell? ⟨N, 2, none⟩ = some (.slice (some ad) Kn Kc) ∧ w'.cell? ⟨M, 0, none⟩ = some (.slice pk pkn pkc)) (by kernel_rfl) ?_
                          rw [hx0]
                          clear hx0
                          refine wpAnyM_take (i := 0) (v := ?_) (arr_get rfl) (by kernel_rfl) (by kernel_rfl) (by kernel_rfl) (by kernel_rfl) (by exact fun _ _ _ h => h) (Or.inl ⟨by rfl, ?_⟩) (HT.out _ HBx.out) ?_
                          rotate_left
                          · (intro w' hSw; (try dsimp only at hSw); go_simp; try with_reducible rfl)
                          try simp only [Act.put, List.setIfInBounds_toArray, List.set_cons_zero, List.set_cons_succ]
                          refine wpAnyM_take (i := 1) (v := ?_) (arr_get rfl) (by kernel_rfl) (by kernel_rfl) (by kernel_rfl) (by kernel_rfl) (by exact fun _ _ _ h => h) (Or.inl ⟨by rfl, ?_⟩) (HT.out _ HBx.out) ?_
                          rotate_left
                          · (intro w' hSw; (try dsimp only at hSw); go_simp; try with_reducible rfl)
                          try simp only [Act.put, List.setIfInBounds_toArray, List.set_cons_zero, List.set_cons_succ]
                          refine wpAnyM_take (i := 2) (v := ?_) (arr_get rfl) (by kernel_rfl) (by kernel_rfl) (by kernel_rfl) (by kernel_rfl) (by exact fun _ _ _ h => h) (Or.inl ⟨by rfl, ?_⟩) (HT.out _ HBx.out) ?_
                          rotate_left
                          · (intro w' hSw; (try dsimp only at hSw); go_simp; try with_reducible rfl)
                          try simp only [Act.put, List.setIfInBounds_toArray, List.set_cons_zero, List.set_cons_succ]
                          refine wpAnyM_take (i := 3) (v := undef) (arr_get rfl) (by kernel_rfl) (by kernel_rfl) (by kernel_rfl) (by kernel_rfl) (by exact fun _ _ _ h => h) (Or.inr ⟨by rfl, rfl⟩) (HT.out _ HBx.out) ?_
                          try simp only [Act.put, List.setIfInBounds_toArray, List.set_cons_zero, List.set_cons_succ]
                          refine wpAnyM_take (i := 4) (v := undef) (arr_get rfl) (by kernel_rfl) (by kernel_rfl) (by kernel_rfl) (by kernel_rfl) (by exact fun _ _ _ h => h) (Or.inr ⟨by rfl, rfl⟩) (HT.out _ HBx.out) ?_
                          try simp only [Act.put, List.setIfInBounds_toArray, List.set_cons_zero, List.set_cons_succ]
                          refine wpAnyM_take (i := 5) (v := undef) (arr_get rfl) (by kernel_rfl) (by kernel_rfl) (by kernel_rfl) (by kernel_rfl) (by exact fun _ _ _ h => h) (Or.inr ⟨by rfl, rfl⟩) (HT.out _ HBx.out) ?_
                          try simp only [Act.put, List.setIfInBounds_toArray, List.set_cons_zero, List.set_cons_succ]
                          refine wpAnyM_take (i := 6) (v := undef) (arr_get rfl) (by kernel_rfl) (by kernel_rfl) (by kernel_rfl) (by kernel_rfl) (by exact fun _ _ _ h => h) (Or.inr ⟨by rfl, rfl⟩) (HT.out _ HBx.out) ?_
                          try simp only [Act.put, List.setIfInBounds_toArray, List.set_cons_zero, List.set_cons_succ]
                          refine wpAnyM_take (i := 7) (v := undef) (arr_get rfl) (by kernel_rfl) (by kernel_rfl) (by kernel_rfl) (by kernel_rfl) (by exact fun _ _ _ h => h) (Or.inr ⟨by rfl, rfl⟩) (HT.out _ HBx.out) ?_
                          try simp only [Act.put, List.setIfInBounds_toArray, List.set_cons_zero, List.set_cons_succ]
                          refine wpAnyM_take (i := 8) (v := undef) (arr_get rfl) (by kernel_rfl) (by kernel_rfl) (by kernel_rfl) (by kernel_rfl) (by exact fun _ _ _ h => h) (Or.inr ⟨by rfl, rfl⟩) (HT.out _ HBx.out) ?_
                          try simp only [Act.put, List.setIfInBounds_toArray, List.set_cons_zero, List.set_cons_succ]
                          refine wpAnyM_take (i := 9) (v := undef) (arr_get rfl) (by kernel_rfl) (by kernel_rfl) (by kernel_rfl) (by kernel_rfl) (by exact fun _ _ _ h => h) (Or.inr ⟨by rfl, rfl⟩) (HT.out _ HBx.out) ?_
                          try simp only [Act.put, List.setIfInBounds_toArray, List.set_cons_zero, List.set_cons_succ]
                          refine wpAnyM_take (i := 10) (v := undef) (arr_get rfl) (by kernel_rfl) (by kernel_rfl) (by kernel_rfl) (by kernel_rfl) (by exact fun _ _ _ h => h) (Or.inr ⟨by rfl, rfl⟩) (HT.out _ HBx.out) ?_
                          try simp only [Act.put, List.setIfInBounds_toArray, List.set_cons_zero, List.set_cons_succ]
                          refine wpAnyM_take (i := 11) (v := undef) (arr_get rfl) (by kernel_rfl) (by kernel_rfl) (by kernel_rfl) (by kernel_rfl) (by exact fun _ _ _ h => h) (Or.inr ⟨by rfl, rfl⟩) (HT.out _ HBx.out) ?_
                          try simp only [Act.put, List.setIfInBounds_toArray, List.set_cons_zero, List.set_cons_succ]
                          refine wpAnyM_take (i := 12) (v := undef) (arr_get rfl) (by kernel_rfl) (by kernel_rfl) (by kernel_rfl) (by kernel_rfl) (by exact fun _ _ _ h => h) (Or.inr ⟨by rfl, rfl⟩) (HT.out _ HBx.out) ?_
                          try simp only [Act.put, List.setIfInBounds_toArray, List.set_cons_zero, List.set_cons_succ]
                          refine wpAnyM_take (i := 13) (v := undef) (arr_get rfl) (by kernel_rfl) (by kernel_rfl) (by kernel_rfl) (by kernel_rfl) (by exact fun _ _ _ h => h) (Or.inr ⟨by rfl, rfl⟩) (HT.out _ HBx.out) ?_
                          try simp only [Act.put, List.setIfInBounds_toArray, List.set_cons_zero, List.set_cons_succ]
                          refine wpAnyM_take (i := 14) (v := ?_) (arr_get rfl) (by kernel_rfl) (by kernel_rfl) (by kernel_rfl) (by kernel_rfl) (by exact fun _ _ _ h => h) (Or.inl ⟨by rfl, ?_⟩) (HT.out _ HBx.out) ?_
                          rotate_left
                          · (intro w' hSw; (try dsimp only at hSw); go_simp; try with_reducible rfl)
                          try simp only [Act.put, List.setIfInBounds_toArray, List.set_cons_zero, List.set_cons_succ]
                          refine wpAnyM_done (by kernel_rfl) ?_ _
                          go_wp2_with fail
                          go_roundg (Kn - (j + 1))
                          case measure => have := hk.out; omega
                          case rel => exact ⟨j + 1, (by show Kn - (j + 1) + (j + 1) = Kn; omega), by go_num, ⟨below_then hI.out.1 hI.out.1.size (below_then HBd.out HBd.out.size HBx.out), fun i2 hi2 => by
                              rcases Nat.lt_or_ge i2 j with q | q
                              · exact hI.out.2 i2 q
                              · obtain rfl : i2 = j := by omega
                                exact HOK.out⟩⟩
                        case pos =>
                          obtain ⟨i, hi⟩ : ∃ i, j = i + 1 := ⟨j - 1, by omega⟩
                          have HJ := Aside0.mk hi
                          have hin : i < Kn := by omega
                          have hin2 : (i : Int) < (Kn : Int) := by omega
                          have dg : decide (1 < (j : Int)) = true := decide_eq_true (by omega)
                          have dj0 : decide (1 < j) = true := decide_eq_true (by omega)
                          have dw : IntKind.i64.wrap (i : Int) = (i : Int) := IntWalk.i64_in _ (by omega)
                          have dw2 : (j : Int) - 1 = (i : Int) := by omega
                          obtain ⟨ad2, p2, e2, hp2, f0, _⟩ := HNd.out.rk.kid HNd.out.lk i hin
                          obtain ⟨q2, hq2, bk2, _⟩ := HNd.out.kds.each i p2 hp2
                          simp only at e2
                          injection e2 with e2
                          subst e2
                          obtain ⟨⟨ok, okn, okc⟩, orr⟩ := p2
                          obtain ⟨oq, oqr⟩ := q2
                          unfold shv at f0
                          unfold Bsh at bk2
                          simp only at f0 bk2
                          have HD := Aside0.mk (show ∀ X : World, Below v0.heap.size v0 X → X.cell? (ad.add (i * 2)) = some (.slice ok okn okc) from fun X hX => cell_below hX f0)
                          obtain ⟨cm, hcm⟩ : ∃ x, Lib.compareBytes oq qk = x := ⟨_, rfl⟩
                          have HCM := Aside0.mk hcm
                          have HQ := Aside0.mk (And.intro HBK.out (And.intro bk2 (Below.refl v0.heap.size v0)))
                          have HCV := Aside0.mk (show Lib.compareBytes (v.kids.getD i kvd).k (v.kids.getD j kvd).k = cm by rw [getD_of hq2, HGQ.out]; exact hcm)
                          have HB6 := Aside0.mk (And.intro b4 (And.intro b5 b6))
                          clear bk2 hp2 hq2 f0 hcm hi b4 b5 b6
                          by_cases qc : cm = -1
                          case neg =>
                            have dc : (cm != -1) = true := bne_iff_ne.2 qc
                            have HRF := Aside0.mk (HNO.out (fun h => by
                              have h1 := h.2.2.2 i HJ.out HB6.out.2.2
                              rw [HCV.out] at h1
                              exact absurd h1 qc))
                            clear qc
                            refine wp_region_M (fun j => decide (j < 25)) (fun w' => w'.cell? ⟨M, 0, none⟩ = some (.slice pk pkn pkc) ∧ w'.cell? ⟨M, 1, none⟩ = some (.int .i64 pr)) (by kernel_rfl) ?_
                            rw [hv0]
                            clear hv0
                            refine wpAnyM_take (i := 0) (v := ?_) (arr_get rfl) (by kernel_rfl) (by kernel_rfl) (by kernel_rfl) (by kernel_rfl) (by exact fun _ _ _ h => h) (Or.inl ⟨by rfl, ?_⟩) (HM.out _ (Below.refl _ _)) ?_
                            rotate_left
                            · (intro w' hSw; (try dsimp only at hSw); go_simp; try with_reducible rfl)
                            try simp only [Act.put, List.setIfInBounds_toArray, List.set_cons_zero, List.set_cons_succ]
                            refine wpAnyM_take (i := 1) (v := ?_) (arr_get rfl) (by kernel_rfl) (by kernel_rfl) (by kernel_rfl) (by kernel_rfl) (by exact fun _ _ _ h => h) (Or.inl ⟨by rfl, ?_⟩) (HM.out _ (Below.refl _ _)) ?_
                            rotate_left
                            · (intro w' hSw; (try dsimp only at hSw); go_simp; try with_reducible rfl)
                            try simp only [Act.put, List.setIfInBounds_toArray, List.set_cons_zero, List.set_cons_succ]
                            refine wpAnyM_take (i := 2) (v := ?_) (arr_get rfl) (by kernel_rfl) (by kernel_rfl) (by kernel_rfl) (by kernel_rfl) (by exact fun _ _ _ h => h) (Or.inl ⟨by rfl, ?_⟩) (HM.out _ (Below.refl _ _)) ?_
                            rotate_left
                            · (intro w' hSw; (try dsimp only at hSw); go_simp; try with_reducible rfl)
                            try simp only [Act.put, List.setIfInBounds_toArray, List.set_cons_zero, List.set_cons_succ]
                            refine wpAnyM_take (i := 3) (v := ?_) (arr_get rfl) (by kernel_rfl) (by kernel_rfl) (by kernel_rfl) (by kernel_rfl) (by exact fun _ _ _ h => h) (Or.inl ⟨by rfl, ?_⟩) (HM.out _ (Below.refl _ _)) ?_
                            rotate_left
                            · (intro w' hSw; (try dsimp only at hSw); go_simp; try with_reducible rfl)
                            try simp only [Act.put, List.setIfInBounds_toArray, List.set_cons_zero, List.set_cons_succ]
                            refine wpAnyM_take (i := 4) (v := ?_) (arr_get rfl) (by kernel_rfl) (by kernel_rfl) (by kernel_rfl) (by kernel_rfl) (by exact fun _ _ _ h => h) (Or.inl ⟨by rfl, ?_⟩) (HM.out _ (Below.refl _ _)) ?_
                            rotate_left
                            · (intro w' hSw; (try dsimp only at hSw); go_simp; try with_reducible rfl)
                            try simp only [Act.put, List.setIfInBounds_toArray, List.set_cons_zero, List.set_cons_succ]
                            refine wpAnyM_take (i := 5) (v := ?_) (arr_get rfl) (by kernel_rfl) (by kernel_rfl) (by kernel_rfl) (by kernel_rfl) (by exact fun _ _ _ h => h) (Or.inl ⟨by rfl, ?_⟩) (HM.out _ (Below.refl _ _)) ?_
                            rotate_left
                            · (intro w' hSw; (try dsimp only at hSw); go_simp; try with_reducible rfl)
                            try simp only [Act.put, List.setIfInBounds_toArray, List.set_cons_zero, List.set_cons_succ]
                            refine wpAnyM_take (i := 6) (v := ?_) (arr_get rfl) (by kernel_rfl) (by kernel_rfl) (by kernel_rfl) (by kernel_rfl) (by exact fun _ _ _ h => h) (Or.inl ⟨by rfl, ?_⟩) (HM.out _ (Below.refl _ _)) ?_
                            rotate_left
                            · (intro w' hSw; (try dsimp only at hSw); go_simp; try with_reducible rfl)
                            try simp only [Act.put, List.setIfInBounds_toArray, List.set_cons_zero, List.set_cons_succ]
                            refine wpAnyM_take (i := 7) (v := ?_) (arr_get rfl) (by kernel_rfl) (by kernel_rfl) (by kernel_rfl) (by kernel_rfl) (by exact fun _ _ _ h => h) (Or.inl ⟨by rfl, ?_⟩) (HM.out _ (Below.refl _ _)) ?_
                            rotate_left
                            · (intro w' hSw; (try dsimp only at hSw); go_simp; try with_reducible rfl)
                            try simp only [Act.put, List.setIfInBounds_toArray, List.set_cons_zero, List.set_cons_succ]
                            refine wpAnyM_take (i := 8) (v := ?_) (arr_get rfl) (by kernel_rfl) (by kernel_rfl) (by kernel_rfl) (by kernel_rfl) (by exact fun _ _ _ h => h) (Or.inl ⟨by rfl, ?_⟩) (HM.out _ (Below.refl _ _)) ?_
                            rotate_left
                            · (intro w' hSw; (try dsimp only at hSw); go_simp; try with_reducible rfl)
                            try simp only [Act.put, List.setIfInBounds_toArray, List.set_cons_zero, List.set_cons_succ]
                            refine wpAnyM_take (i := 9) (v := ?_) (arr_get rfl) (by kernel_rfl) (by kernel_rfl) (by kernel_rfl) (by kernel_rfl) (by exact fun _ _ _ h => h) (Or.inl ⟨by rfl, ?_⟩) (HM.out _ (Below.refl _ _)) ?_
                            rotate_left
                            · (intro w' hSw; (try dsimp only at hSw); go_simp; try with_reducible rfl)
                            try simp only [Act.put, List.setIfInBounds_toArray, List.set_cons_zero, List.set_cons_succ]
                            refine wpAnyM_take (i := 10) (v := ?_) (arr_get rfl) (by kernel_rfl) (by kernel_rfl) (by kernel_rfl) (by kernel_rfl) (by exact fun _ _ _ h => h) (Or.inl ⟨by rfl, ?_⟩) (HM.out _ (Below.refl _ _)) ?_
                            rotate_left
                            · (intro w' hSw; (try dsimp only at hSw); go_simp; try with_reducible rfl)
                            try simp only [Act.put, List.setIfInBounds_toArray, List.set_cons_zero, List.set_cons_succ]
                            refine wpAnyM_take (i := 11) (v := ?_) (arr_get rfl) (by kernel_rfl) (by kernel_rfl) (by kernel_rfl) (by kernel_rfl) (by exact fun _ _ _ h => h) (Or.inl ⟨by rfl, ?_⟩) (HM.out _ (Below.refl _ _)) ?_
                            rotate_left
                            · (intro w' hSw; (try dsimp only at hSw); go_simp; try with_reducible rfl)
                            try simp only [Act.put, List.setIfInBounds_toArray, List.set_cons_zero, List.set_cons_succ]
                            refine wpAnyM_take (i := 12) (v := ?_) (arr_get rfl) (by kernel_rfl) (by kernel_rfl) (by kernel_rfl) (by kernel_rfl) (by exact fun _ _ _ h => h) (Or.inl ⟨by rfl, ?_⟩) (HM.out _ (Below.refl _ _)) ?_
                            rotate_left
                            · (intro w' hSw; (try dsimp only at hSw); go_simp; try with_reducible rfl)
                            try simp only [Act.put, List.setIfInBounds_toArray, List.set_cons_zero, List.set_cons_succ]
                            refine wpAnyM_one (i := 13) (by kernel_rfl) (arr_get rfl) ?_
                            go_wp2_with (go_at_call 80; refine (rMaxKey_any g v0).mono ?_; rintro e v9 ⟨rfl, rfl⟩)
                            refine ⟨HM.out _ (Below.refl _ _), ?_⟩
                            try simp only [Act.put, List.setIfInBounds_toArray, List.set_cons_zero, List.set_cons_succ]
                            refine wpAnyM_take (i := 14) (v := ?_) (arr_get rfl) (by kernel_rfl) (by kernel_rfl) (by kernel_rfl) (by kernel_rfl) (by exact fun _ _ _ h => h) (Or.inl ⟨by rfl, ?_⟩) (HM.out _ (Below.refl _ _)) ?_
                            rotate_left
                            · (intro w' hSw; (try dsimp only at hSw); go_simp; try with_reducible rfl)
                            try simp only [Act.put, List.setIfInBounds_toArray, List.set_cons_zero, List.set_cons_succ]
                            refine wpAnyM_take (i := 15) (v := ?_) (arr_get rfl) (by kernel_rfl) (by kernel_rfl) (by kernel_rfl) (by kernel_rfl) (by exact fun _ _ _ h => h) (Or.inl ⟨by rfl, ?_⟩) (HM.out _ (Below.refl _ _)) ?_
                            rotate_left
                            · (intro w' hSw; (try dsimp only at hSw); go_simp; try with_reducible rfl)
                            try simp only [Act.put, List.setIfInBounds_toArray, List.set_cons_zero, List.set_cons_succ]
                            refine wpAnyM_take (i := 16) (v := ?_) (arr_get rfl) (by kernel_rfl) (by kernel_rfl) (by kernel_rfl) (by kernel_rfl) (by exact fun _ _ _ h => h) (Or.inl ⟨by rfl, ?_⟩) (HM.out _ (Below.refl _ _)) ?_
                            rotate_left
                            · (intro w' hSw; (try dsimp only at hSw); go_simp; try with_reducible rfl)
                            try simp only [Act.put, List.setIfInBounds_toArray, List.set_cons_zero, List.set_cons_succ]
                            refine wpAnyM_take (i := 17) (v := ?_) (arr_get rfl) (by kernel_rfl) (by kernel_rfl) (by kernel_rfl) (by kernel_rfl) (by exact fun _ _ _ h => h) (Or.inl ⟨by rfl, ?_⟩) (HM.out _ (Below.refl _ _)) ?_
                            rotate_left
                            · (intro w' hSw; (try dsimp only at hSw); go_simp; try with_reducible rfl)
                            try simp only [Act.put, List.setIfInBounds_toArray, List.set_cons_zero, List.set_cons_succ]
                            refine wpAnyM_take (i := 18) (v := ?_) (arr_get rfl) (by kernel_rfl) (by kernel_rfl) (by kernel_rfl) (by kernel_rfl) (by exact fun _ _ _ h => h) (Or.inl ⟨by rfl, ?_⟩) (HM.out _ (Below.refl _ _)) ?_
                            rotate_left
                            · (intro w' hSw; (try dsimp only at hSw); go_simp; try with_reducible rfl)
                            try simp only [Act.put, List.setIfInBounds_toArray, List.set_cons_zero, List.set_cons_succ]
                            refine wpAnyM_take (i := 19) (v := ?_) (arr_get rfl) (by kernel_rfl) (by kernel_rfl) (by kernel_rfl) (by kernel_rfl) (by exact fun _ _ _ h => h) (Or.inl ⟨by rfl, ?_⟩) (HM.out _ (Below.refl _ _)) ?_
                            rotate_left
                            · (intro w' hSw; (try dsimp only at hSw); go_simp; try with_reducible rfl)
                            try simp only [Act.put, List.setIfInBounds_toArray, List.set_cons_zero, List.set_cons_succ]
                            refine wpAnyM_take (i := 20) (v := ?_) (arr_get rfl) (by kernel_rfl) (by kernel_rfl) (by kernel_rfl) (by kernel_rfl) (by exact fun _ _ _ h => h) (Or.inl ⟨by rfl, ?_⟩) (HM.out _ (Below.refl _ _)) ?_
                            rotate_left
                            · (intro w' hSw; (try dsimp only at hSw); go_simp; try with_reducible rfl)
                            try simp only [Act.put, List.setIfInBounds_toArray, List.set_cons_zero, List.set_cons_succ]
                            refine wpAnyM_take (i := 21) (v := ?_) (arr_get rfl) (by kernel_rfl) (by kernel_rfl) (by kernel_rfl) (by kernel_rfl) (by exact fun _ _ _ h => h) (Or.inl ⟨by rfl, ?_⟩) (HM.out _ (Below.refl _ _)) ?_
                            rotate_left
                            · (intro w' hSw; (try dsimp only at hSw); go_simp; try with_reducible rfl)
                            try simp only [Act.put, List.setIfInBounds_toArray, List.set_cons_zero, List.set_cons_succ]
                            refine wpAnyM_take (i := 22) (v := ?_) (arr_get rfl) (by kernel_rfl) (by kernel_rfl) (by kernel_rfl) (by kernel_rfl) (by exact fun _ _ _ h => h) (Or.inl ⟨by rfl, ?_⟩) (HM.out _ (Below.refl _ _)) ?_
                            rotate_left
                            · (intro w' hSw; (try dsimp only at hSw); go_simp; try with_reducible rfl)
                            try simp only [Act.put, List.setIfInBounds_toArray, List.set_cons_zero, List.set_cons_succ]
                            refine wpAnyM_take (i := 23) (v := ?_) (arr_get rfl) (by kernel_rfl) (by kernel_rfl) (by kernel_rfl) (by kernel_rfl) (by exact fun _ _ _ h => h) (Or.inl ⟨by rfl, ?_⟩) (HM.out _ (Below.refl _ _)) ?_
                            rotate_left
                            · (intro w' hSw; (try dsimp only at hSw); go_simp; try with_reducible rfl)
                            try simp only [Act.put, List.setIfInBounds_toArray, List.set_cons_zero, List.set_cons_succ]
                            refine wpAnyM_take (i := 24) (v := ?_) (arr_get rfl) (by kernel_rfl) (by kernel_rfl) (by kernel_rfl) (by kernel_rfl) (by exact fun _ _ _ h => h) (Or.inl ⟨by rfl, ?_⟩) (HM.out _ (Below.refl _ _)) ?_
                            rotate_left
                            · (intro w' hSw; (try dsimp only at hSw); go_simp; try with_reducible rfl)
                            try simp only [Act.put, List.setIfInBounds_toArray, List.set_cons_zero, List.set_cons_succ]
                            refine wpAnyM_done (by kernel_rfl) ?_ _
                            go_upto_region 16 with fail
                            obtain ⟨x0, hx0⟩ : ∃ X, v0.drew = X := ⟨_, rfl⟩
                            have HBx := Aside0.mk (show Below v0.heap.size v0 x0 by rw [← hx0]; exact below_drew (Below.refl _ _))
                            have HT := Aside0.mk (show ∀ X : World, Below v0.heap.size v0 X → X.cell? ⟨N, 2, none⟩ = some (.slice (some ad) Kn Kc) ∧ X.cell? ⟨M, 0, none⟩ = some (.slice pk pkn pkc) ∧ X.cell? (ad.add (i * 2)) = some (.slice ok okn okc) from fun X hX => ⟨(HN2.out _ hX), (HM.out _ hX).1, HD.out _ hX⟩)
                            refine wp_region_M (fun j => decide (j < 15)) (fun w' => w'.cell? ⟨N, 2, none⟩ = some (.slice (some ad) Kn Kc) ∧ w'.cell? ⟨M, 0, none⟩ = some (.slice pk pkn pkc) ∧ w'.cell? (ad.add (i * 2)) = some (.slice ok okn okc)) (by kernel_rfl) ?_
                            rw [hx0]
                            clear hx0
                            refine wpAnyM_take (i := 0) (v := ?_) (arr_get rfl) (by kernel_rfl) (by kernel_rfl) (by kernel_rfl) (by kernel_rfl) (by exact fun _ _ _ h => h) (Or.inl ⟨by rfl, ?_⟩) (HT.out _ HBx.out) ?_
                            rotate_left
                            · (intro w' hSw; (try dsimp only at hSw); go_simp; try with_reducible rfl)
                            try simp only [Act.put, List.setIfInBounds_toArray, List.set_cons_zero, List.set_cons_succ]
                            refine wpAnyM_take (i := 1) (v := ?_) (arr_get rfl) (by kernel_rfl) (by kernel_rfl) (by kernel_rfl) (by kernel_rfl) (by exact fun _ _ _ h => h) (Or.inl ⟨by rfl, ?_⟩) (HT.out _ HBx.out) ?_
                            rotate_left
                            · (intro w' hSw; (try dsimp only at hSw); go_simp; try with_reducible rfl)
                            try simp only [Act.put, List.setIfInBounds_toArray, List.set_cons_zero, List.set_cons_succ]
                            refine wpAnyM_take (i := 2) (v := ?_) (arr_get rfl) (by kernel_rfl) (by kernel_rfl) (by kernel_rfl) (by kernel_rfl) (by exact fun _ _ _ h => h) (Or.inl ⟨by rfl, ?_⟩) (HT.out _ HBx.out) ?_
                            rotate_left
                            · (intro w' hSw; (try dsimp only at hSw); go_simp; try with_reducible rfl)
                            try simp only [Act.put, List.setIfInBounds_toArray, List.set_cons_zero, List.set_cons_succ]
                            refine wpAnyM_take (i := 3) (v := ?_) (arr_get rfl) (by kernel_rfl) (by kernel_rfl) (by kernel_rfl) (by kernel_rfl) (by exact fun _ _ _ h => h) (Or.inl ⟨by rfl, ?_⟩) (HT.out _ HBx.out) ?_
                            rotate_left
                            · (intro w' hSw; (try dsimp only at hSw); go_simp; try with_reducible rfl)
                            try simp only [Act.put, List.setIfInBounds_toArray, List.set_cons_zero, List.set_cons_succ]
                            refine wpAnyM_take (i := 4) (v := ?_) (arr_get rfl) (by kernel_rfl) (by kernel_rfl) (by kernel_rfl) (by kernel_rfl) (by exact fun _ _ _ h => h) (Or.inl ⟨by rfl, ?_⟩) (HT.out _ HBx.out) ?_
                            rotate_left
                            · (intro w' hSw; (try dsimp only at hSw); go_simp; try with_reducible rfl)
                            try simp only [Act.put, List.setIfInBounds_toArray, List.set_cons_zero, List.set_cons_succ]
                            refine wpAnyM_take (i := 5) (v := ?_) (arr_get rfl) (by kernel_rfl) (by kernel_rfl) (by kernel_rfl) (by kernel_rfl) (by exact fun _ _ _ h => h) (Or.inl ⟨by rfl, ?_⟩) (HT.out _ HBx.out) ?_
                            rotate_left
                            · (intro w' hSw; (try dsimp only at hSw); go_simp; try with_reducible rfl)
                            try simp only [Act.put, List.setIfInBounds_toArray, List.set_cons_zero, List.set_cons_succ]
                            refine wpAnyM_take (i := 6) (v := ?_) (arr_get rfl) (by kernel_rfl) (by kernel_rfl) (by kernel_rfl) (by kernel_rfl) (by exact fun _ _ _ h => h) (Or.inl ⟨by rfl, ?_⟩) (HT.out _ HBx.out) ?_
                            rotate_left
                            · (intro w' hSw; (try dsimp only at hSw); go_simp; try with_reducible rfl)
                            try simp only [Act.put, List.setIfInBounds_toArray, List.set_cons_zero, List.set_cons_succ]
                            refine wpAnyM_take (i := 7) (v := ?_) (arr_get rfl) (by kernel_rfl) (by kernel_rfl) (by kernel_rfl) (by kernel_rfl) (by exact fun _ _ _ h => h) (Or.inl ⟨by rfl, ?_⟩) (HT.out _ HBx.out) ?_
                            rotate_left
                            · (intro w' hSw; (try dsimp only at hSw); go_simp; try with_reducible rfl)
                            try simp only [Act.put, List.setIfInBounds_toArray, List.set_cons_zero, List.set_cons_succ]
                            refine wpAnyM_take (i := 8) (v := ?_) (arr_get rfl) (by kernel_rfl) (by kernel_rfl) (by kernel_rfl) (by kernel_rfl) (by exact fun _ _ _ h => h) (Or.inl ⟨by rfl, ?_⟩) (HT.out _ HBx.out) ?_
                            rotate_left
                            · (intro w' hSw; (try dsimp only at hSw); go_simp; try with_reducible rfl)
                            try simp only [Act.put, List.setIfInBounds_toArray, List.set_cons_zero, List.set_cons_succ]
                            refine wpAnyM_take (i := 9) (v := ?_) (arr_get rfl) (by kernel_rfl) (by kernel_rfl) (by kernel_rfl) (by kernel_rfl) (by exact fun _ _ _ h => h) (Or.inl ⟨by rfl, ?_⟩) (HT.out _ HBx.out) ?_
                            rotate_left
                            · (intro w' hSw; (try dsimp only at hSw); go_simp; try with_reducible rfl)
                            try simp only [Act.put, List.setIfInBounds_toArray, List.set_cons_zero, List.set_cons_succ]
                            refine wpAnyM_take (i := 10) (v := ?_) (arr_get rfl) (by kernel_rfl) (by kernel_rfl) (by kernel_rfl) (by kernel_rfl) (by exact fun _ _ _ h => h) (Or.inl ⟨by rfl, ?_⟩) (HT.out _ HBx.out) ?_
                            rotate_left
                            · (intro w' hSw; (try dsimp only at hSw); go_simp; try with_reducible rfl)
                            try simp only [Act.put, List.setIfInBounds_toArray, List.set_cons_zero, List.set_cons_succ]
                            refine wpAnyM_take (i := 11) (v := ?_) (arr_get rfl) (by kernel_rfl) (by kernel_rfl) (by kernel_rfl) (by kernel_rfl) (by exact fun _ _ _ h => h) (Or.inl ⟨by rfl, ?_⟩) (HT.out _ HBx.out) ?_
                            rotate_left
                            · (intro w' hSw; (try dsimp only at hSw); go_simp; try with_reducible rfl)
                            try simp only [Act.put, List.setIfInBounds_toArray, List.set_cons_zero, List.set_cons_succ]
                            refine wpAnyM_one (i := 12) (by kernel_rfl) (arr_get rfl) ?_
                            go_wp2_with (go_at_call 28; refine (rcompare_any ok okn okc oq pk pkn pkc qk x0 (HQ.out.2.1.below (below_then HQ.out.2.2 HQ.out.2.2.size HBx.out)) (HQ.out.1.below (below_then HQ.out.2.2 HQ.out.2.2.size HBx.out))).mono ?_; rintro e x1 ⟨rfl, m3, hm3⟩; rw [HCM.out]; (have H3 := Aside0.mk (below_then HBx.out HBx.out.size (below_eq hm3))); clear hm3)
                            refine ⟨HT.out _ H3.out, ?_⟩
                            try simp only [Act.put, List.setIfInBounds_toArray, List.set_cons_zero, List.set_cons_succ]
                            refine wpAnyM_take (i := 13) (v := ?_) (arr_get rfl) (by kernel_rfl) (by kernel_rfl) (by kernel_rfl) (by kernel_rfl) (by exact fun _ _ _ h => h) (Or.inl ⟨by rfl, ?_⟩) (HT.out _ H3.out) ?_
                            rotate_left
                            · (intro w' hSw; (try dsimp only at hSw); go_simp; try with_reducible rfl)
                            try simp only [Act.put, List.setIfInBounds_toArray, List.set_cons_zero, List.set_cons_succ]
                            refine wpAnyM_take (i := 14) (v := ?_) (arr_get rfl) (by kernel_rfl) (by kernel_rfl) (by kernel_rfl) (by kernel_rfl) (by exact fun _ _ _ h => h) (Or.inl ⟨by rfl, ?_⟩) (HT.out _ H3.out) ?_
                            rotate_left
                            · (intro w' hSw; (try dsimp only at hSw); go_simp; try with_reducible rfl)
                            try simp only [Act.put, List.setIfInBounds_toArray, List.set_cons_zero, List.set_cons_succ]
                            refine wpAnyM_done (by kernel_rfl) ?_ _
                            go_wp2_with fail
                            go_ret
                            refine ⟨?_, below_then (below_then H0B.out H0B.out.size hI.out.1) (by have := hI.out.1.size; have := H0B.out.size; omega) (below_then HBd.out HBd.out.size H3.out)⟩
                            rw [HRF.out]
                            try rfl
                          case pos =>
                            have HOK := Aside0.mk (show okK g v.kids j by
                              have h1 := HB3.out
                              have h2 := HQL.out
                              have h3 := HB6.out
                              have h4 := HCV.out
                              unfold okK
                              refine ⟨by rw [HGQ.out]; exact ⟨h1.1, h1.2.1⟩, by rw [HGQ.out]; simp only; omega, by rw [HGQ.out]; exact ⟨fun h => by omega, fun h => by simp only at h; omega⟩, fun i2 hi2 _ => ?_⟩
                              have h5 := HJ.out
                              obtain rfl : i2 = i := by omega
                              rw [h4]
                              exact qc)
                            subst qc
                            refine wp_region_M (fun j => decide (j < 25)) (fun w' => w'.cell? ⟨M, 0, none⟩ = some (.slice pk pkn pkc) ∧ w'.cell? ⟨M, 1, none⟩ = some (.int .i64 pr)) (by kernel_rfl) ?_
                            rw [hv0]
                            clear hv0
                            refine wpAnyM_take (i := 0) (v := ?_) (arr_get rfl) (by kernel_rfl) (by kernel_rfl) (by kernel_rfl) (by kernel_rfl) (by exact fun _ _ _ h => h) (Or.inl ⟨by rfl, ?_⟩) (HM.out _ (Below.refl _ _)) ?_
                            rotate_left
                            · (intro w' hSw; (try dsimp only at hSw); go_simp; try with_reducible rfl)
                            try simp only [Act.put, List.setIfInBounds_toArray, List.set_cons_zero, List.set_cons_succ]
                            refine wpAnyM_take (i := 1) (v := ?_) (arr_get rfl) (by kernel_rfl) (by kernel_rfl) (by kernel_rfl) (by kernel_rfl) (by exact fun _ _ _ h => h) (Or.inl ⟨by rfl, ?_⟩) (HM.out _ (Below.refl _ _)) ?_
                            rotate_left
                            · (intro w' hSw; (try dsimp only at hSw); go_simp; try with_reducible rfl)
                            try simp only [Act.put, List.setIfInBounds_toArray, List.set_cons_zero, List.set_cons_succ]
                            refine wpAnyM_take (i := 2) (v := ?_) (arr_get rfl) (by kernel_rfl) (by kernel_rfl) (by kernel_rfl) (by kernel_rfl) (by exact fun _ _ _ h => h) (Or.inl ⟨by rfl, ?_⟩) (HM.out _ (Below.refl _ _)) ?_
                            rotate_left
                            · (intro w' hSw; (try dsimp only at hSw); go_simp; try with_reducible rfl)
                            try simp only [Act.put, List.setIfInBounds_toArray, List.set_cons_zero, List.set_cons_succ]
                            refine wpAnyM_take (i := 3) (v := ?_) (arr_get rfl) (by kernel_rfl) (by kernel_rfl) (by kernel_rfl) (by kernel_rfl) (by exact fun _ _ _ h => h) (Or.inl ⟨by rfl, ?_⟩) (HM.out _ (Below.refl _ _)) ?_
                            rotate_left
                            · (intro w' hSw; (try dsimp only at hSw); go_simp; try with_reducible rfl)
                            try simp only [Act.put, List.setIfInBounds_toArray, List.set_cons_zero, List.set_cons_succ]
                            refine wpAnyM_take (i := 4) (v := ?_) (arr_get rfl) (by kernel_rfl) (by kernel_rfl) (by kernel_rfl) (by kernel_rfl) (by exact fun _ _ _ h => h) (Or.inl ⟨by rfl, ?_⟩) (HM.out _ (Below.refl _ _)) ?_
                            rotate_left
                            · (intro w' hSw; (try dsimp only at hSw); go_simp; try with_reducible rfl)
                            try simp only [Act.put, List.setIfInBounds_toArray, List.set_cons_zero, List.set_cons_succ]
                            refine wpAnyM_take (i := 5) (v := ?_) (arr_get rfl) (by kernel_rfl) (by kernel_rfl) (by kernel_rfl) (by kernel_rfl) (by exact fun _ _ _ h => h) (Or.inl ⟨by rfl, ?_⟩) (HM.out _ (Below.refl _ _)) ?_
                            rotate_left
                            · (intro w' hSw; (try dsimp only at hSw); go_simp; try with_reducible rfl)
                            try simp only [Act.put, List.setIfInBounds_toArray, List.set_cons_zero, List.set_cons_succ]
                            refine wpAnyM_take (i := 6) (v := ?_) (arr_get rfl) (by kernel_rfl) (by kernel_rfl) (by kernel_rfl) (by kernel_rfl) (by exact fun _ _ _ h => h) (Or.inl ⟨by rfl, ?_⟩) (HM.out _ (Below.refl _ _)) ?_
                            rotate_left
                            · (intro w' hSw; (try dsimp only at hSw); go_simp; try with_reducible rfl)
                            try simp only [Act.put, List.setIfInBounds_toArray, List.set_cons_zero, List.set_cons_succ]
                            refine wpAnyM_take (i := 7) (v := ?_) (arr_get rfl) (by kernel_rfl) (by kernel_rfl) (by kernel_rfl) (by kernel_rfl) (by exact fun _ _ _ h => h) (Or.inl ⟨by rfl, ?_⟩) (HM.out _ (Below.refl _ _)) ?_
                            rotate_left
                            · (intro w' hSw; (try dsimp only at hSw); go_simp; try with_reducible rfl)
                            try simp only [Act.put, List.setIfInBounds_toArray, List.set_cons_zero, List.set_cons_succ]
                            refine wpAnyM_take (i := 8) (v := ?_) (arr_get rfl) (by kernel_rfl) (by kernel_rfl) (by kernel_rfl) (by kernel_rfl) (by exact fun _ _ _ h => h) (Or.inl ⟨by rfl, ?_⟩) (HM.out _ (Below.refl _ _)) ?_
                            rotate_left
                            · (intro w' hSw; (try dsimp only at hSw); go_simp; try with_reducible rfl)
                            try simp only [Act.put, List.setIfInBounds_toArray, List.set_cons_zero, List.set_cons_succ]
                            refine wpAnyM_take (i := 9) (v := ?_) (arr_get rfl) (by kernel_rfl) (by kernel_rfl) (by kernel_rfl) (by kernel_rfl) (by exact fun _ _ _ h => h) (Or.inl ⟨by rfl, ?_⟩) (HM.out _ (Below.refl _ _)) ?_
                            rotate_left
                            · (intro w' hSw; (try dsimp only at hSw); go_simp; try with_reducible rfl)
                            try simp only [Act.put, List.setIfInBounds_toArray, List.set_cons_zero, List.set_cons_succ]
                            refine wpAnyM_take (i := 10) (v := ?_) (arr_get rfl) (by kernel_rfl) (by kernel_rfl) (by kernel_rfl) (by kernel_rfl) (by exact fun _ _ _ h => h) (Or.inl ⟨by rfl, ?_⟩) (HM.out _ (Below.refl _ _)) ?_
                            rotate_left
                            · (intro w' hSw; (try dsimp only at hSw); go_simp; try with_reducible rfl)
                            try simp only [Act.put, List.setIfInBounds_toArray, List.set_cons_zero, List.set_cons_succ]
                            refine wpAnyM_take (i := 11) (v := ?_) (arr_get rfl) (by kernel_rfl) (by kernel_rfl) (by kernel_rfl) (by kernel_rfl) (by exact fun _ _ _ h => h) (Or.inl ⟨by rfl, ?_⟩) (HM.out _ (Below.refl _ _)) ?_
                            rotate_left
                            · (intro w' hSw; (try dsimp only at hSw); go_simp; try with_reducible rfl)
                            try simp only [Act.put, List.setIfInBounds_toArray, List.set_cons_zero, List.set_cons_succ]
                            refine wpAnyM_take (i := 12) (v := ?_) (arr_get rfl) (by kernel_rfl) (by kernel_rfl) (by kernel_rfl) (by kernel_rfl) (by exact fun _ _ _ h => h) (Or.inl ⟨by rfl, ?_⟩) (HM.out _ (Below.refl _ _)) ?_
                            rotate_left
                            · (intro w' hSw; (try dsimp only at hSw); go_simp; try with_reducible rfl)
                            try simp only [Act.put, List.setIfInBounds_toArray, List.set_cons_zero, List.set_cons_succ]
                            refine wpAnyM_one (i := 13) (by kernel_rfl) (arr_get rfl) ?_
                            go_wp2_with (go_at_call 80; refine (rMaxKey_any g v0).mono ?_; rintro e v9 ⟨rfl, rfl⟩)
                            refine ⟨HM.out _ (Below.refl _ _), ?_⟩
                            try simp only [Act.put, List.setIfInBounds_toArray, List.set_cons_zero, List.set_cons_succ]
                            refine wpAnyM_take (i := 14) (v := ?_) (arr_get rfl) (by kernel_rfl) (by kernel_rfl) (by kernel_rfl) (by kernel_rfl) (by exact fun _ _ _ h => h) (Or.inl ⟨by rfl, ?_⟩) (HM.out _ (Below.refl _ _)) ?_
                            rotate_left
                            · (intro w' hSw; (try dsimp only at hSw); go_simp; try with_reducible rfl)
                            try simp only [Act.put, List.setIfInBounds_toArray, List.set_cons_zero, List.set_cons_succ]
                            refine wpAnyM_take (i := 15) (v := ?_) (arr_get rfl) (by kernel_rfl) (by kernel_rfl) (by kernel_rfl) (by kernel_rfl) (by exact fun _ _ _ h => h) (Or.inl ⟨by rfl, ?_⟩) (HM.out _ (Below.refl _ _)) ?_
                            rotate_left
                            · (intro w' hSw; (try dsimp only at hSw); go_simp; try with_reducible rfl)
                            try simp only [Act.put, List.setIfInBounds_toArray, List.set_cons_zero, List.set_cons_succ]
                            refine wpAnyM_take (i := 16) (v := ?_) (arr_get rfl) (by kernel_rfl) (by kernel_rfl) (by kernel_rfl) (by kernel_rfl) (by exact fun _ _ _ h => h) (Or.inl ⟨by rfl, ?_⟩) (HM.out _ (Below.refl _ _)) ?_
                            rotate_left
                            · (intro w' hSw; (try dsimp only at hSw); go_simp; try with_reducible rfl)
                            try simp only [Act.put, List.setIfInBounds_toArray, List.set_cons_zero, List.set_cons_succ]
                            refine wpAnyM_take (i := 17) (v := ?_) (arr_get rfl) (by kernel_rfl) (by kernel_rfl) (by kernel_rfl) (by kernel_rfl) (by exact fun _ _ _ h => h) (Or.inl ⟨by rfl, ?_⟩) (HM.out _ (Below.refl _ _)) ?_
                            rotate_left
                            · (intro w' hSw; (try dsimp only at hSw); go_simp; try with_reducible rfl)
                            try simp only [Act.put, List.setIfInBounds_toArray, List.set_cons_zero, List.set_cons_succ]
                            refine wpAnyM_take (i := 18) (v := ?_) (arr_get rfl) (by kernel_rfl) (by kernel_rfl) (by kernel_rfl) (by kernel_rfl) (by exact fun _ _ _ h => h) (Or.inl ⟨by rfl, ?_⟩) (HM.out _ (Below.refl _ _)) ?_
                            rotate_left
                            · (intro w' hSw; (try dsimp only at hSw); go_simp; try with_reducible rfl)
                            try simp only [Act.put, List.setIfInBounds_toArray, List.set_cons_zero, List.set_cons_succ]
                            refine wpAnyM_take (i := 19) (v := ?_) (arr_get rfl) (by kernel_rfl) (by kernel_rfl) (by kernel_rfl) (by kernel_rfl) (by exact fun _ _ _ h => h) (Or.inl ⟨by rfl, ?_⟩) (HM.out _ (Below.refl _ _)) ?_
                            rotate_left
                            · (intro w' hSw; (try dsimp only at hSw); go_simp; try with_reducible rfl)
                            try simp only [Act.put, List.setIfInBounds_toArray, List.set_cons_zero, List.set_cons_succ]
                            refine wpAnyM_take (i := 20) (v := ?_) (arr_get rfl) (by kernel_rfl) (by kernel_rfl) (by kernel_rfl) (by kernel_rfl) (by exact fun _ _ _ h => h) (Or.inl ⟨by rfl, ?_⟩) (HM.out _ (Below.refl _ _)) ?_
                            rotate_left
                            · (intro w' hSw; (try dsimp only at hSw); go_simp; try with_reducible rfl)
                            try simp only [Act.put, List.setIfInBounds_toArray, List.set_cons_zero, List.set_cons_succ]
                            refine wpAnyM_take (i := 21) (v := ?_) (arr_get rfl) (by kernel_rfl) (by kernel_rfl) (by kernel_rfl) (by kernel_rfl) (by exact fun _ _ _ h => h) (Or.inl ⟨by rfl, ?_⟩) (HM.out _ (Below.refl _ _)) ?_
                            rotate_left
                            · (intro w' hSw; (try dsimp only at hSw); go_simp; try with_reducible rfl)
                            try simp only [Act.put, List.setIfInBounds_toArray, List.set_cons_zero, List.set_cons_succ]
                            refine wpAnyM_take (i := 22) (v := ?_) (arr_get rfl) (by kernel_rfl) (by kernel_rfl) (by kernel_rfl) (by kernel_rfl) (by exact fun _ _ _ h => h) (Or.inl ⟨by rfl, ?_⟩) (HM.out _ (Below.refl _ _)) ?_
                            rotate_left
                            · (intro w' hSw; (try dsimp only at hSw); go_simp; try with_reducible rfl)
                            try simp only [Act.put, List.setIfInBounds_toArray, List.set_cons_zero, List.set_cons_succ]
                            refine wpAnyM_take (i := 23) (v := ?_) (arr_get rfl) (by kernel_rfl) (by kernel_rfl) (by kernel_rfl) (by kernel_rfl) (by exact fun _ _ _ h => h) (Or.inl ⟨by rfl, ?_⟩) (HM.out _ (Below.refl _ _)) ?_
                            rotate_left
                            · (intro w' hSw; (try dsimp only at hSw); go_simp; try with_reducible rfl)
                            try simp only [Act.put, List.setIfInBounds_toArray, List.set_cons_zero, List.set_cons_succ]
                            refine wpAnyM_take (i := 24) (v := ?_) (arr_get rfl) (by kernel_rfl) (by kernel_rfl) (by kernel_rfl) (by kernel_rfl) (by exact fun _ _ _ h => h) (Or.inl ⟨by rfl, ?_⟩) (HM.out _ (Below.refl _ _)) ?_
                            rotate_left
                            · (intro w' hSw; (try dsimp only at hSw); go_simp; try with_reducible rfl)
                            try simp only [Act.put, List.setIfInBounds_toArray, List.set_cons_zero, List.set_cons_succ]
                            refine wpAnyM_done (by kernel_rfl) ?_ _
                            go_upto_region 16 with fail
                            obtain ⟨x0, hx0⟩ : ∃ X, v0.drew = X := ⟨_, rfl⟩
                            have HBx := Aside0.mk (show Below v0.heap.size v0 x0 by rw [← hx0]; exact below_drew (Below.refl _ _))
                            have HT := Aside0.mk (show ∀ X : World, Below v0.heap.size v0 X → X.cell? ⟨N, 2, none⟩ = some (.slice (some ad) Kn Kc) ∧ X.cell? ⟨M, 0, none⟩ = some (.slice pk pkn pkc) ∧ X.cell? (ad.add (i * 2)) = some (.slice ok okn okc) from fun X hX => ⟨(HN2.out _ hX), (HM.out _ hX).1, HD.out _ hX⟩)
                            refine wp_region_M (fun j => decide (j < 15)) (fun w' => w'.cell? ⟨N, 2, none⟩ = some (.slice (some ad) Kn Kc) ∧ w'.cell? ⟨M, 0, none⟩ = some (.slice pk pkn pkc) ∧ w'.cell? (ad.add (i * 2)) = some (.slice ok okn okc)) (by kernel_rfl) ?_
                            rw [hx0]
                            clear hx0
                            refine wpAnyM_take (i := 0) (v := ?_) (arr_get rfl) (by kernel_rfl) (by kernel_rfl) (by kernel_rfl) (by kernel_rfl) (by exact fun _ _ _ h => h) (Or.inl ⟨by rfl, ?_⟩) (HT.out _ HBx.out) ?_
                            rotate_left
                            · (intro w' hSw; (try dsimp only at hSw); go_simp; try with_reducible rfl)
                            try simp only [Act.put, List.setIfInBounds_toArray, List.set_cons_zero, List.set_cons_succ]
                            refine wpAnyM_take (i := 1) (v := ?_) (arr_get rfl) (by kernel_rfl) (by kernel_rfl) (by kernel_rfl) (by kernel_rfl) (by exact fun _ _ _ h => h) (Or.inl ⟨by rfl, ?_⟩) (HT.out _ HBx.out) ?_
                            rotate_left
                            · (intro w' hSw; (try dsimp only at hSw); go_simp; try with_reducible rfl)
                            try simp only [Act.put, List.setIfInBounds_toArray, List.set_cons_zero, List.set_cons_succ]
                            refine wpAnyM_take (i := 2) (v := ?_) (arr_get rfl) (by kernel_rfl) (by kernel_rfl) (by kernel_rfl) (by kernel_rfl) (by exact fun _ _ _ h => h) (Or.inl ⟨by rfl, ?_⟩) (HT.out _ HBx.out) ?_
                            rotate_left
                            · (intro w' hSw; (try dsimp only at hSw); go_simp; try with_reducible rfl)
                            try simp only [Act.put, List.setIfInBounds_toArray, List.set_cons_zero, List.set_cons_succ]
                            refine wpAnyM_take (i := 3) (v := ?_) (arr_get rfl) (by kernel_rfl) (by kernel_rfl) (by kernel_rfl) (by kernel_rfl) (by exact fun _ _ _ h => h) (Or.inl ⟨by rfl, ?_⟩) (HT.out _ HBx.out) ?_
                            rotate_left
                            · (intro w' hSw; (try dsimp only at hSw); go_simp; try with_reducible rfl)
                            try simp only [Act.put, List.setIfInBounds_toArray, List.set_cons_zero, List.set_cons_succ]
                            refine wpAnyM_take (i := 4) (v := ?_) (arr_get rfl) (by kernel_rfl) (by kernel_rfl) (by kernel_rfl) (by kernel_rfl) (by exact fun _ _ _ h => h) (Or.inl ⟨by rfl, ?_⟩) (HT.out _ HBx.out) ?_
                            rotate_left
                            · (intro w' hSw; (try dsimp only at hSw); go_simp; try with_reducible rfl)
                            try simp only [Act.put, List.setIfInBounds_toArray, List.set_cons_zero, List.set_cons_succ]
                            refine wpAnyM_take (i := 5) (v := ?_) (arr_get rfl) (by kernel_rfl) (by kernel_rfl) (by kernel_rfl) (by kernel_rfl) (by exact fun _ _ _ h => h) (Or.inl ⟨by rfl, ?_⟩) (HT.out _ HBx.out) ?_
                            rotate_left
                            · (intro w' hSw; (try dsimp only at hSw); go_simp; try with_reducible rfl)
                            try simp only [Act.put, List.setIfInBounds_toArray, List.set_cons_zero, List.set_cons_succ]
                            refine wpAnyM_take (i := 6) (v := ?_) (arr_get rfl) (by kernel_rfl) (by kernel_rfl) (by kernel_rfl) (by kernel_rfl) (by exact fun _ _ _ h => h) (Or.inl ⟨by rfl, ?_⟩) (HT.out _ HBx.out) ?_
                            rotate_left
                            · (intro w' hSw; (try dsimp only at hSw); go_simp; try with_reducible rfl)
                            try simp only [Act.put, List.setIfInBounds_toArray, List.set_cons_zero, List.set_cons_succ]
                            refine wpAnyM_take (i := 7) (v := ?_) (arr_get rfl) (by kernel_rfl) (by kernel_rfl) (by kernel_rfl) (by kernel_rfl) (by exact fun _ _ _ h => h) (Or.inl ⟨by rfl, ?_⟩) (HT.out _ HBx.out) ?_
                            rotate_left
                            · (intro w' hSw; (try dsimp only at hSw); go_simp; try with_reducible rfl)
                            try simp only [Act.put, List.setIfInBounds_toArray, List.set_cons_zero, List.set_cons_succ]
                            refine wpAnyM_take (i := 8) (v := ?_) (arr_get rfl) (by kernel_rfl) (by kernel_rfl) (by kernel_rfl) (by kernel_rfl) (by exact fun _ _ _ h => h) (Or.inl ⟨by rfl, ?_⟩) (HT.out _ HBx.out) ?_
                            rotate_left
                            · (intro w' hSw; (try dsimp only at hSw); go_simp; try with_reducible rfl)
                            try simp only [Act.put, List.setIfInBounds_toArray, List.set_cons_zero, List.set_cons_succ]
                            refine wpAnyM_take (i := 9) (v := ?_) (arr_get rfl) (by kernel_rfl) (by kernel_rfl) (by kernel_rfl) (by kernel_rfl) (by exact fun _ _ _ h => h) (Or.inl ⟨by rfl, ?_⟩) (HT.out _ HBx.out) ?_
                            rotate_left
                            · (intro w' hSw; (try dsimp only at hSw); go_simp; try with_reducible rfl)
                            try simp only [Act.put, List.setIfInBounds_toArray, List.set_cons_zero, List.set_cons_succ]
                            refine wpAnyM_take (i := 10) (v := ?_) (arr_get rfl) (by kernel_rfl) (by kernel_rfl) (by kernel_rfl) (by kernel_rfl) (by exact fun _ _ _ h => h) (Or.inl ⟨by rfl, ?_⟩) (HT.out _ HBx.out) ?_
                            rotate_left
                            · (intro w' hSw; (try dsimp only at hSw); go_simp; try with_reducible rfl)
                            try simp only [Act.put, List.setIfInBounds_toArray, List.set_cons_zero, List.set_cons_succ]
                            refine wpAnyM_take (i := 11) (v := ?_) (arr_get rfl) (by kernel_rfl) (by kernel_rfl) (by kernel_rfl) (by kernel_rfl) (by exact fun _ _ _ h => h) (Or.inl ⟨by rfl, ?_⟩) (HT.out _ HBx.out) ?_
                            rotate_left
                            · (intro w' hSw; (try dsimp only at hSw); go_simp; try with_reducible rfl)
                            try simp only [Act.put, List.setIfInBounds_toArray, List.set_cons_zero, List.set_cons_succ]
                            refine wpAnyM_one (i := 12) (by kernel_rfl) (arr_get rfl) ?_
                            go_wp2_with (go_at_call 28; refine (rcompare_any ok okn okc oq pk pkn pkc qk x0 (HQ.out.2.1.below (below_then HQ.out.2.2 HQ.out.2.2.size HBx.out)) (HQ.out.1.below (below_then HQ.out.2.2 HQ.out.2.2.size HBx.out))).mono ?_; rintro e x1 ⟨rfl, m3, hm3⟩; rw [HCM.out]; (have H3 := Aside0.mk (below_then HBx.out HBx.out.size (below_eq hm3))); clear hm3)
                            refine ⟨HT.out _ H3.out, ?_⟩
                            try simp only [Act.put, List.setIfInBounds_toArray, List.set_cons_zero, List.set_cons_succ]
                            refine wpAnyM_take (i := 13) (v := ?_) (arr_get rfl) (by kernel_rfl) (by kernel_rfl) (by kernel_rfl) (by kernel_rfl) (by exact fun _ _ _ h => h) (Or.inl ⟨by rfl, ?_⟩) (HT.out _ H3.out) ?_
                            rotate_left
                            · (intro w' hSw; (try dsimp only at hSw); go_simp; try with_reducible rfl)
                            try simp only [Act.put, List.setIfInBounds_toArray, List.set_cons_zero, List.set_cons_succ]
                            refine wpAnyM_take (i := 14) (v := ?_) (arr_get rfl) (by kernel_rfl) (by kernel_rfl) (by kernel_rfl) (by kernel_rfl) (by exact fun _ _ _ h => h) (Or.inl ⟨by rfl, ?_⟩) (HT.out _ H3.out) ?_
                            rotate_left
                            · (intro w' hSw; (try dsimp only at hSw); go_simp; try with_reducible rfl)
                            try simp only [Act.put, List.setIfInBounds_toArray, List.set_cons_zero, List.set_cons_succ]
                            refine wpAnyM_done (by kernel_rfl) ?_ _
                            go_wp2_with fail
                            go_roundg (Kn - (j + 1))
                            case measure => have := hk.out; omega
                            case rel => exact ⟨j + 1, (by show Kn - (j + 1) + (j + 1) = Kn; omega), by go_num, ⟨below_then hI.out.1 hI.out.1.size (below_then HBd.out HBd.out.size H3.out), fun i2 hi2 => by
                                rcases Nat.lt_or_ge i2 j with q | q
                                · exact hI.out.2 i2 q
                                · obtain rfl : i2 = j := by omega
                                  exact HOK.out⟩⟩
            · obtain rfl : Kn = j := by omega
              have d1 : decide ((Kn : Int) < (Kn : Int)) = false := by simp
              have HFI := Aside0.mk (show rightN g v = decide (Kn ≠ 0 ∧ In = 0) by
                have h := HRL.out
                have h2 := hI.out.2
                rw [← HLL.out.2] at h2
                rw [Bool.eq_iff_iff, h, decide_eq_true_iff, HLL.out.2, HLL.out.1]
                exact ⟨fun k => k.2, fun k => ⟨fun j hj => h2 j (by rw [HLL.out.2]; exact hj), k⟩⟩)
              have hB9 := Aside0.mk (below_then H0B.out H0B.out.size hI.out.1)
              by_cases qk : Kn = 0
              · subst qk
                go_wp2_with fail
                go_ret
                refine ⟨?_, hB9.out⟩
                rw [HFI.out]
                rfl
              · have dk : decide (0 < (Kn : Int)) = true := decide_eq_true (by omega)
                have dk2 : (0 : Int) < (Kn : Int) := by omega
                by_cases qi : In = 0
                · subst qi
                  have HFK := Aside0.mk (show decide (Kn ≠ 0 ∧ 0 = 0) = true from decide_eq_true ⟨qk, rfl⟩)
                  clear qk
                  go_wp2_with fail
                  go_ret
                  refine ⟨?_, hB9.out⟩
                  rw [HFI.out, HFK.out]
                  try rfl
                · have di : ((In : Int) == 0) = false := beq_eq_false_iff_ne.2 (by omega)
                  have HFK := Aside0.mk (show decide (Kn ≠ 0 ∧ In = 0) = false from decide_eq_false (fun h => qi h.2))
                  clear qk qi
                  go_wp2_with fail
                  go_ret
                  refine ⟨?_, hB9.out⟩
                  rw [HFI.out, HFK.out]
                  try rfl
end Go.Proofs.YtbjfklgmbeaaoaaGreat
