/- The walk of ref07's Encode: it says what page's says. -/
import Derived.Test.YtbjfklgmbeaaoaaKQ
import Derived.Test.YtbjfklgmbeaaoaaV4
set_option linter.unusedVariables false
set_option linter.unusedSimpArgs false
namespace Go.Proofs.Ytbjfklgmbeaaoaa
open Go.RowKit

/-- The bytes so far, and a row beside them. -/
structure EM (w1 : World) (M : Nat) (o : Obj) (A : Option Addr) (m c : Nat) (ys : List UInt8) (W : World) : Prop where
  own : Ow W w1.heap.size A m c ys
  bel : Below w1.heap.size w1 W
  row : W.heap[M]? = some o
  ne : A ≠ some ⟨M, 0, none⟩
theorem EM.grow {w1 W W1 : World} {M m c m2 c2 : Nat} {o : Obj} {A A2 : Option Addr} {ys zs : List UInt8} (k : EM w1 M o A m c ys W) (hO : Ow W1 w1.heap.size A2 m2 c2 zs) (hG : GwS W A A2 W1) : EM w1 M o A2 m2 c2 zs W1 :=
  ⟨hO, hG.below k.bel (Nat.le_refl _) k.own.base8, hG.row k.row k.ne, fun e => by
    rcases hG.at_ with e2 | e2
    · exact k.ne (by rw [← e2, e])
    · have := e2 M e
      have := (Array.getElem?_eq_some_iff.1 k.row).1
      omega⟩
theorem EM.step {w1 W W1 : World} {M m c : Nat} {o : Obj} {A : Option Addr} {ys : List UInt8} (k : EM w1 M o A m c ys W) (hB : Below W.heap.size W W1) : EM w1 M o A m c ys W1 :=
  ⟨k.own.below hB, below_then k.bel k.bel.size hB, (hB.block _ (Array.getElem?_eq_some_iff.1 k.row).1).trans k.row, k.ne⟩
/-- Another row, younger than the bytes. -/
theorem EM.lit {w1 W : World} {M m c : Nat} {o : Obj} {A : Option Addr} {ys : List UInt8} (k : EM w1 M o A m c ys W) (o2 : Obj) : EM w1 W.heap.size o2 A m c ys (W.alloc o2) := by
  have h1 := k.step ((Below.refl _ W).alloc (Nat.le_refl _) o2)
  refine ⟨h1.own, h1.bel, heap_alloc_new W o2, fun e => ?_⟩
  rcases k.own.addr8 with e2 | ⟨q, e2, _, hq⟩
  · rw [e2] at e; cases e
  · rw [e2] at e; injection e with e; injection e with e; omega
/-- Back to the row that is as old as all. -/
theorem EM.back {w1 W : World} {M N m c : Nat} {o o2 : Obj} {A : Option Addr} {ys : List UInt8} (k : EM w1 M o A m c ys W) (hr : w1.heap[N]? = some o2) : EM w1 N o2 A m c ys W := by
  have hN := (Array.getElem?_eq_some_iff.1 hr).1
  refine ⟨k.own, k.bel, (k.bel.block _ hN).trans hr, fun e => ?_⟩
  have := k.own.base8 N e
  omega
theorem EM.len {w1 W : World} {M m c : Nat} {o : Obj} {A : Option Addr} {ys : List UInt8} (k : EM w1 M o A m c ys W) : ys.length = m := k.own.bs.len
theorem u8_lit (k : Nat) (h : k ≤ 255) : (#[.int .u8 (k : Int)] : Array Value) = (u8v (le8 (k : Int) 1)).toArray := by
  have b1 : (((UInt8.ofNat ((k : Int) / 256 ^ 0 % 256).toNat).toNat : Nat) : Int) = (k : Int) := by
    rw [UInt8.toNat_ofNat', Int.pow_zero, Int.ediv_one]
    omega
  show (#[Value.int .u8 (k : Int)] : Array Value) = #[.int .u8 (((UInt8.ofNat ((k : Int) / 256 ^ 0 % 256).toNat).toNat : Nat) : Int)]
  rw [b1]
theorem rput7_iw (base : Nat) (A : Option Addr) (n0 c0 : Nat) (xs : List UInt8) (n g : Int) (w : World) (k3 : 0 ≤ n) (k4 : n ≤ 9223372036854775807) (hg : ((iwI g).toNat : Int) = iwI g) (hm8 : (iwI g).toNat ≤ 8) (hn0 : n0 ≤ 1000) (hb : base ≤ w.heap.size) (hO0 : Ow w base A n0 c0 xs) :
    Calls Try.prog 77 #[.slice A n0 c0, .int .i64 n, .int .i64 (iwI g)] w fun e w' => ∃ A' c', e = .returned (.slice A' (n0 + (iwI g).toNat) c') ∧ Ow w' base A' (n0 + (iwI g).toNat) c' (xs ++ le8 n (iwI g).toNat) ∧ GwS w A A' w' := by
  have h := rput7_grow base A n0 c0 xs n (iwI g).toNat w k3 k4 hm8 hn0 hb hO0
  rw [hg] at h
  exact h
theorem u8_lit0 : (#[.int .u8 0] : Array Value) = (u8v (le8 0 1)).toArray := rfl
theorem u8_lit1 : (#[.int .u8 1] : Array Value) = (u8v (le8 1 1)).toArray := rfl
set_option maxHeartbeats 16000000 in
set_option maxRecDepth 100000 in
theorem rencode7_any (h : NH) (is : List IH) (ks : List KH) (v : NV) (g : Int) (w : World) (hn : Nd w h is ks v) :
    Calls Try.prog 30 #[.int .i64 g, .agg (nhv h)] w fun e w' => ∃ A1 c1, e = .returned (.tuple #[.slice A1 (pgB g v).length c1, .int .i64 (pgE g v)]) ∧ Ow w' w.heap.size A1 (pgB g v).length c1 (pgB g v) ∧ Below w.heap.size w w' := by
  obtain ⟨lf, ⟨IA, In, Ic⟩, ⟨KA, Kn, Kc⟩⟩ := h
  have hbi : In ≤ 1000 := hn.bi
  have hbk : Kn ≤ 1000 := hn.bk
  have HLF := Aside0.mk (show lf = v.leaf from hn.leaf)
  have HLL := Aside0.mk (show v.items.length = In ∧ v.kids.length = Kn from ⟨by rw [← hn.its.len]; exact hn.li, by rw [← hn.kds.len]; exact hn.lk⟩)
  have hB0 := (Below.refl _ w).alloc (Nat.le_refl _) (.cells #[.bool lf, .slice IA In Ic, .slice KA Kn Kc] 63)
  have H0 := Aside0.mk (And.intro (heap_alloc_new w (.cells #[.bool lf, .slice IA In Ic, .slice KA Kn Kc] 63)) (And.intro (hn.below hB0) hB0))
  clear hn
  show Calls Try.prog 30 #[.int .i64 g, .agg #[.bool lf, .slice IA In Ic, .slice KA Kn Kc]] w _
  have cF : ∀ X, Nd X ⟨lf, (IA, In, Ic), (KA, Kn, Kc)⟩ is ks v → _ := fun X hX => r6right_any ⟨lf, (IA, In, Ic), (KA, Kn, Kc)⟩ is ks v g X hX
  simp only [nhv] at cF
  cases hr : rightN g v with
  | false =>
    have HE := Aside0.mk (show pgE g v = 73 ∧ pgB g v = [] by
      have h1 : pgE g v = 73 := by unfold pgE encOk; rw [hr]; rfl
      exact ⟨h1, by unfold pgB; rw [h1]; rfl⟩)
    rw [hr] at cF
    clear hr
    go_enter Try.func30, Try.ntmps30
    go_upto_region 1 with fail
    obtain ⟨w0, hw0⟩ : ∃ X, w.alloc (.cells #[.bool lf, .slice IA In Ic, .slice KA Kn Kc] 63) = X := ⟨_, rfl⟩
    obtain ⟨N, hN⟩ : ∃ X, w.heap.size = X := ⟨_, rfl⟩
    rw [hw0, hN] at H0
    rw [hw0, hN]
    have H0B := Aside0.mk (show Below w.heap.size w w0 by rw [hN]; exact H0.out.2.2)
    clear hB0 hw0 hN
    obtain ⟨y0, y1, y2⟩ := nd_cells H0.out.1
    go_wp2_with (go_at_call 76; refine (cF w0 H0.out.2.1).mono ?_; rintro e w1 ⟨rfl, hB⟩; (have H1 := Aside0.mk (below_then H0B.out H0B.out.size hB)); clear hB)
    go_ret2
    rw [HE.out.1, HE.out.2]
    exact ⟨none, 0, rfl, Ow.nil _ _, H1.out⟩
  | true =>
    rw [hr] at cF
    have HR := Aside0.mk hr
    have HG := Aside0.mk (right_bnd hr).1
    clear hr
    go_enter Try.func30, Try.ntmps30
    go_upto_region 1 with fail
    obtain ⟨w0, hw0⟩ : ∃ X, w.alloc (.cells #[.bool lf, .slice IA In Ic, .slice KA Kn Kc] 63) = X := ⟨_, rfl⟩
    obtain ⟨N, hN⟩ : ∃ X, w.heap.size = X := ⟨_, rfl⟩
    rw [hw0, hN] at H0
    rw [hw0, hN]
    have H0B := Aside0.mk (show Below w.heap.size w w0 by rw [hN]; exact H0.out.2.2)
    clear hB0 hw0 hN
    obtain ⟨y0, y1, y2⟩ := nd_cells H0.out.1
    go_upto_region 3 with (go_at_call 76; refine (cF w0 H0.out.2.1).mono ?_; rintro e w1 ⟨rfl, hB⟩; (have H1 := Aside0.mk (And.intro ((hB.block _ (Array.getElem?_eq_some_iff.1 H0.out.1).1).trans H0.out.1) (And.intro (H0.out.2.1.below hB) (below_then H0B.out H0B.out.size hB)))); clear hB)
    clear y0 y1 y2 cF H0 H0B
    have HRN := Aside0.mk H1.out.1
    have HND := Aside0.mk H1.out.2.1
    have H0B := Aside0.mk H1.out.2.2
    clear H1
    have HIW := Aside0.mk (show ((iwI g).toNat : Int) = iwI g by rcases iw_in HG.out with e | e <;> rw [e] <;> rfl)
    have HIW8 := Aside0.mk (show (iwI g).toNat ≤ 8 by rcases iw_in HG.out with e | e <;> rw [e] <;> decide)
    have hiw8 := HIW8.out
    go_upto_region 5 with (go_at_call 67; refine (rIdWidth_any g w1).mono ?_; rintro e w9 ⟨rfl, rfl⟩)
    go_wp2_with fail
    go_loopg [6, 8] In (fun gk v6 v8 wr => ∃ (j : Nat) (A : Option Addr) (m c : Nat), Aside (gk + j = In) ∧ v6 = .slice A m c ∧ v8 = .int .i64 (j : Int) ∧ Aside0 (EM w1 N (.cells #[.bool lf, .slice IA In Ic, .slice KA Kn Kc] 63) A m c ((v.items.take j).flatMap (itemY g)) wr ∧ (∀ q ∈ v.items.take j, lacksB q = false) ∧ m ≤ 248))
    case atStart => exact ⟨0, none, 0, 0, rfl, rfl, rfl, ⟨⟨Ow.nil _ _, Below.refl _ _, HRN.out, fun e => by cases e⟩, fun q hq => by simp at hq, Nat.zero_le _⟩⟩
    case round =>
      obtain ⟨j, A, m, c, hk, rfl, rfl, hI⟩ := hrel
      have hjm : j ≤ In := by have := hk.out; omega
      obtain ⟨y0, y1, y2⟩ := nd_cells hI.out.1.row
      have hmb := hI.out.2.2
      rcases Nat.lt_or_ge j In with hlt | hge
      · have d1 : decide ((j : Int) < (In : Int)) = true := decide_eq_true (by omega)
        have hjn : (j : Int) < (In : Int) := by omega
        have hNd := HND.out.below hI.out.1.bel
        obtain ⟨ad, p, e0, hp, c0, c1, c2, c3⟩ := hNd.ri.item hNd.li j hlt
        obtain ⟨q, hq, bk, bv, es, er⟩ := HND.out.its.each j p hp
        simp only at e0
        subst e0
        obtain ⟨⟨pk, pkn, pkc⟩, ⟨pv, pvn, pvc⟩, ps, pr⟩ := p
        obtain ⟨qk, qv, qs, qr⟩ := q
        unfold shv at c0 c1
        unfold Bsh at bk bv
        simp only at c0 c1 c2 c3 bk bv es er
        subst es er
        have HQ := Aside0.mk hq
        have HQL := Aside0.mk (And.intro bk.len bv.len)
        have HB := Aside0.mk (show ∀ X : World, Below w1.heap.size w1 X → Bs X pk pkn pkc qk ∧ Bs X pv pvn pvc qv from fun X hX => ⟨bk.below hX, bv.below hX⟩)
        have hmem := List.mem_of_getElem? hq
        have hklim := bk.lim
        have hvlim := bv.lim
        clear hp hq bk bv hNd
        cases hlk : lacksB ⟨qk, qv, ps, pr⟩ with
        | true =>
          have HE := Aside0.mk (show pgE g v = 73 ∧ pgB g v = [] by
            have h1 : pgE g v = 73 := by unfold pgE encOk; rw [HR.out, List.any_eq_true.2 ⟨_, hmem, hlk⟩]; rfl
            exact ⟨h1, by unfold pgB; rw [h1]; rfl⟩)
          have hr0 : pr = 0 ∧ 32 < pvn := by
            unfold lacksB farB at hlk
            simp only at hlk
            rw [Bool.and_eq_true, decide_eq_true_iff] at hlk
            obtain ⟨h1, h2⟩ := hlk
            rw [h2] at h1
            have h3 : (32 : Int) < (qv.length : Int) := by simpa using h1
            have := HQL.out.2
            exact ⟨h2, by omega⟩
          obtain ⟨rfl, h32⟩ := hr0
          have d32 : decide (32 < pvn) = true := decide_eq_true h32
          have d33 : decide ((32 : Int) < (pvn : Int)) = true := decide_eq_true (by omega)
          have d34 : (32 : Int) < (pvn : Int) := by omega
          have hB8 := Aside0.mk (below_then H0B.out H0B.out.size hI.out.1.bel)
          clear hlk hmem h32
          go_upto_region 9 with fail
          have hrM := heap_alloc_new wr (.cells #[.slice pk pkn pkc, .slice pv pvn pvc, .int .i64 ps, .int .i64 0] 119)
          have HBL := Aside0.mk (below_then hB8.out hB8.out.size ((Below.refl _ wr).alloc (Nat.le_refl _) (.cells #[.slice pk pkn pkc, .slice pv pvn pvc, .int .i64 ps, .int .i64 0] 119)))
          obtain ⟨M, hM⟩ : ∃ X, wr.heap.size = X := ⟨_, rfl⟩
          obtain ⟨w2, hw2⟩ : ∃ X, wr.alloc (.cells #[.slice pk pkn pkc, .slice pv pvn pvc, .int .i64 ps, .int .i64 0] 119) = X := ⟨_, rfl⟩
          rw [hw2] at hrM HBL
          have hrM2 : w2.heap[M]? = some (.cells #[.slice pk pkn pkc, .slice pv pvn pvc, .int .i64 ps, .int .i64 0] 119) := by rw [← hM]; exact hrM
          rw [hw2, hM]
          clear hrM hM hw2 y0 y1 y2 c0 c1 c2 c3
          obtain ⟨y0, y1, y2, y3⟩ := item_cells2 hrM2
          go_wp2_with fail
          go_ret2
          rw [HE.out.1, HE.out.2]
          exact ⟨none, 0, rfl, Ow.nil _ _, HBL.out⟩
        | false =>
          have HNL := Aside0.mk hlk
          have HOK := Aside0.mk (right_item1 HR.out hmem hlk)
          have hkk : pkn ≤ 24 := by have := HOK.out.k; have := HQL.out.1; simp only at *; omega
          clear hlk hmem
          obtain ⟨YS, hYS⟩ : ∃ x, (v.items.take j).flatMap (itemY g) = x := ⟨_, rfl⟩
          rw [hYS] at hI
          have HYS := Aside0.mk hYS
          clear hYS
          by_cases hr0 : pr = 0
          case pos =>
            subst hr0
            have hvv : pvn ≤ 32 := by rcases HOK.out.z with z | z; (have := HQL.out.2; have := z.2.2; simp only at *; omega); exact absurd rfl z.1
            have d32 : decide (32 < pvn) = false := decide_eq_false (by omega)
            have d33 : decide ((32 : Int) < (pvn : Int)) = false := decide_eq_false (by omega)
            have HPS := Aside0.mk (show longI qv.length ps 0 = (pvn : Int) by unfold longI; rw [if_pos rfl, HQL.out.2])
            have HP2 := Aside0.mk (show 0 ≤ (pvn : Int) ∧ (pvn : Int) ≤ 1600 by omega)
            have HIY := Aside0.mk (show YS ++ itemY g ⟨qk, qv, ps, 0⟩ = (((((YS ++ le8 (pkn : Int) 1) ++ le8 0 1) ++ le8 (pvn : Int) 2) ++ qk) ++ qv) by
              unfold itemY
              simp only [if_true, HQL.out.1, HPS.out, List.append_nil, List.append_assoc])
            go_upto_region 9 with fail
            have hA := hI.out.1.lit (.cells #[.slice pk pkn pkc, .slice pv pvn pvc, .int .i64 ps, .int .i64 0] 119)
            have hN9 := (nd_cells ((hI.out.1.bel.block _ (Array.getElem?_eq_some_iff.1 HRN.out).1).trans HRN.out)).1
            obtain ⟨M, hM⟩ : ∃ X, wr.heap.size = X := ⟨_, rfl⟩
            obtain ⟨w2, hw2⟩ : ∃ X, wr.alloc (.cells #[.slice pk pkn pkc, .slice pv pvn pvc, .int .i64 ps, .int .i64 0] 119) = X := ⟨_, rfl⟩
            rw [hw2, hM] at hA
            rw [hw2, hM]
            have H2 := Aside0.mk hA
            clear hA hw2 hM y0 y1 y2 c0 c1 c2 c3 hN9
            have HS := Aside0.mk (show ∀ X : World, X.heap[M]? = some (.cells #[.slice pk pkn pkc, .slice pv pvn pvc, .int .i64 ps, .int .i64 0] 119) → _ from fun X hX => item_cells2 hX)
            obtain ⟨y0, y1, y2, y3⟩ := item_cells2 H2.out.row
            go_upto_region 11 with fail
            clear y0 y1 y2 y3
            obtain ⟨y0, y1, y2, y3⟩ := item_cells2 H2.out.row
            have hL := Bs.lit w2 w2.heap.size rfl #[.int .u8 (pkn : Int)] 5 (0, 0) 1 1 (le8 (pkn : Int) 1) (u8_lit pkn (by omega)) rfl (by omega) (by omega) (by omega)
            have H3 := Aside0.mk (And.intro (H2.out.step ((Below.refl _ w2).alloc (Nat.le_refl _) (.cells #[.int .u8 (pkn : Int)] 5))) hL)
            clear hL
            go_upto_region 12 with (at_builtin; refine wpl_g8 (M := _) (A0 := A) w1.heap.size (by rfl) _ _ (by rfl) A m c YS _ 1 1 (le8 (pkn : Int) 1) (m + 1) (YS ++ le8 (pkn : Int) 1) (by rfl) (by rfl) H3.out.1.own H3.out.2 H3.out.1.bel.size (by omega) (by omega) (by omega) rfl (GwS.refl _ _) ?_; intro A3 c3 w3 hO hG; (have H4 := Aside0.mk (H3.out.1.grow hO.out hG.out)); clear hO hG; clear y0 y1 y2 y3; (obtain ⟨y0, y1, y2, y3⟩ := item_cells2 H4.out.row))
            clear H3
            go_upto_region 13 with fail
            clear y0 y1 y2 y3
            have hA := H4.out.step (below_drew (Below.refl _ w3))
            obtain ⟨u0, hu0⟩ : ∃ X, w3.drew = X := ⟨_, rfl⟩
            rw [hu0] at hA
            have H5 := Aside0.mk hA
            clear hA
            refine wp_region_M (fun j => decide (j < 9)) (fun w' => w'.cell? ⟨M, 0, none⟩ = some (.slice pk pkn pkc) ∧ w'.cell? ⟨M, 1, none⟩ = some (.slice pv pvn pvc) ∧ w'.cell? ⟨M, 2, none⟩ = some (.int .i64 ps) ∧ w'.cell? ⟨M, 3, none⟩ = some (.int .i64 0)) (by kernel_rfl) ?_
            rw [hu0]
            clear hu0
            refine wpAnyM_take (i := 0) (v := ?_) (by simp only [List.getElem?_toArray, List.getElem?_cons_succ, List.getElem?_cons_zero]; rfl) (by kernel_rfl) (by kernel_rfl) (by kernel_rfl) (by kernel_rfl) (by exact fun _ _ _ h => h) (Or.inl ⟨by rfl, ?_⟩) (item_cells2 H5.out.row) ?_
            rotate_left
            · (intro w' hSw; (try dsimp only at hSw); go_simp; try with_reducible rfl)
            try simp only [Act.put, List.setIfInBounds_toArray, List.set_cons_zero, List.set_cons_succ]
            refine wpAnyM_take (i := 3) (v := ?_) (by simp only [List.getElem?_toArray, List.getElem?_cons_succ, List.getElem?_cons_zero]; rfl) (by kernel_rfl) (by kernel_rfl) (by kernel_rfl) (by kernel_rfl) (by exact fun _ _ _ h => h) (Or.inl ⟨by rfl, ?_⟩) (item_cells2 H5.out.row) ?_
            rotate_left
            · (intro w' hSw; (try dsimp only at hSw); go_simp; try with_reducible rfl)
            try simp only [Act.put, List.setIfInBounds_toArray, List.set_cons_zero, List.set_cons_succ]
            refine wpAnyM_take (i := 4) (v := ?_) (by simp only [List.getElem?_toArray, List.getElem?_cons_succ, List.getElem?_cons_zero]; rfl) (by kernel_rfl) (by kernel_rfl) (by kernel_rfl) (by kernel_rfl) (by exact fun _ _ _ h => h) (Or.inl ⟨by rfl, ?_⟩) (item_cells2 H5.out.row) ?_
            rotate_left
            · (intro w' hSw; (try dsimp only at hSw); go_simp; try with_reducible rfl)
            try simp only [Act.put, List.setIfInBounds_toArray, List.set_cons_zero, List.set_cons_succ]
            refine wpAnyM_take (i := 5) (v := ?_) (by simp only [List.getElem?_toArray, List.getElem?_cons_succ, List.getElem?_cons_zero]; rfl) (by kernel_rfl) (by kernel_rfl) (by kernel_rfl) (by kernel_rfl) (by exact fun _ _ _ h => h) (Or.inl ⟨by rfl, ?_⟩) (item_cells2 H5.out.row) ?_
            rotate_left
            · (intro w' hSw; (try dsimp only at hSw); go_simp; try with_reducible rfl)
            try simp only [Act.put, List.setIfInBounds_toArray, List.set_cons_zero, List.set_cons_succ]
            refine wpAnyM_one (i := 1) (by kernel_rfl) (by simp only [List.getElem?_toArray, List.getElem?_cons_succ, List.getElem?_cons_zero]; rfl) ?_
            go_wp2_with fail
            have hL := Bs.lit u0 u0.heap.size rfl #[.int .u8 0] 5 (0, 0) 1 1 (le8 0 1) u8_lit0 rfl (by omega) (by omega) (by omega)
            have hA := H5.out.step ((Below.refl _ u0).alloc (Nat.le_refl _) (.cells #[.int .u8 0] 5))
            obtain ⟨NL, hNL⟩ : ∃ X, u0.heap.size = X := ⟨_, rfl⟩
            obtain ⟨u1, hWL⟩ : ∃ X, u0.alloc (.cells #[.int .u8 0] 5) = X := ⟨_, rfl⟩
            rw [hWL] at hL hA
            rw [hWL]
            rw [hNL] at hL
            rw [hNL]
            have H6 := Aside0.mk (And.intro hA hL)
            clear hL hA hWL hNL
            refine ⟨item_cells2 H6.out.1.row, ?_⟩
            try simp only [Act.put, List.setIfInBounds_toArray, List.set_cons_zero, List.set_cons_succ]
            refine wpAnyM_one (i := 2) (by kernel_rfl) (by simp only [List.getElem?_toArray, List.getElem?_cons_succ, List.getElem?_cons_zero]; rfl) ?_
            refine wpl_g8 (M := _) (A0 := A3) w1.heap.size (by rfl) (.tmp 48) (.tmp 49) (by rfl) A3 (m + 1) c3 (YS ++ le8 (pkn : Int) 1) (some ⟨NL, 0, none⟩) 1 1 (le8 0 1) (m + 2) ((YS ++ le8 (pkn : Int) 1) ++ le8 0 1) (by rfl) (by rfl) H6.out.1.own H6.out.2 (by have := H6.out.1.bel.size; exact this) (by omega) (by omega) (by omega) (by first | rfl | simp only [List.append_assoc]) (GwS.refl _ _) ?_
            intro Au2 cu2 u2 hO hG
            have H7 := Aside0.mk (H6.out.1.grow hO.out hG.out)
            clear hO hG
            refine wpl_nil (And.intro rfl (And.intro (fun _ => item_cells2 H7.out.row) ?_))
            try simp only [Act.put, List.setIfInBounds_toArray, List.set_cons_zero, List.set_cons_succ]
            refine wpAnyM_one (i := 6) (by kernel_rfl) (by simp only [List.getElem?_toArray, List.getElem?_cons_succ, List.getElem?_cons_zero]; rfl) ?_
            go_wp2_with (go_at_call 77; refine (rput7_grow w1.heap.size Au2 (m + 2) cu2 ((YS ++ le8 (pkn : Int) 1) ++ le8 0 1) (pvn : Int) 2 u2 HP2.out.1 (by have := HP2.out; omega) (by omega) (by omega) H7.out.bel.size H7.out.own).mono ?_; rintro e u3 ⟨A8, c8, rfl, hO, hG⟩; (have H8 := Aside0.mk (H7.out.grow hO hG)); clear hO hG)
            refine ⟨item_cells2 H8.out.row, ?_⟩
            try simp only [Act.put, List.setIfInBounds_toArray, List.set_cons_zero, List.set_cons_succ]
            refine wpAnyM_take (i := 7) (v := ?_) (by simp only [List.getElem?_toArray, List.getElem?_cons_succ, List.getElem?_cons_zero]; rfl) (by kernel_rfl) (by kernel_rfl) (by kernel_rfl) (by kernel_rfl) (by exact fun _ _ _ h => h) (Or.inl ⟨by rfl, ?_⟩) (item_cells2 H8.out.row) ?_
            rotate_left
            · (intro w' hSw; (try dsimp only at hSw); go_simp; try with_reducible rfl)
            try simp only [Act.put, List.setIfInBounds_toArray, List.set_cons_zero, List.set_cons_succ]
            refine wpAnyM_done (by kernel_rfl) ?_ _
            go_upto_region 14 with fail
            have hA := H8.out.step (below_drew (Below.refl _ u3))
            obtain ⟨v0, hu0⟩ : ∃ X, u3.drew = X := ⟨_, rfl⟩
            rw [hu0] at hA
            have H9 := Aside0.mk hA
            clear hA
            refine wp_region_M (fun j => decide (j < 8)) (fun w' => w'.cell? ⟨M, 0, none⟩ = some (.slice pk pkn pkc) ∧ w'.cell? ⟨M, 1, none⟩ = some (.slice pv pvn pvc) ∧ w'.cell? ⟨M, 2, none⟩ = some (.int .i64 ps) ∧ w'.cell? ⟨M, 3, none⟩ = some (.int .i64 0)) (by kernel_rfl) ?_
            rw [hu0]
            clear hu0
            refine wpAnyM_take (i := 0) (v := ?_) (by simp only [List.getElem?_toArray, List.getElem?_cons_succ, List.getElem?_cons_zero]; rfl) (by kernel_rfl) (by kernel_rfl) (by kernel_rfl) (by kernel_rfl) (by exact fun _ _ _ h => h) (Or.inl ⟨by rfl, ?_⟩) (item_cells2 H9.out.row) ?_
            rotate_left
            · (intro w' hSw; (try dsimp only at hSw); go_simp; try with_reducible rfl)
            try simp only [Act.put, List.setIfInBounds_toArray, List.set_cons_zero, List.set_cons_succ]
            refine wpAnyM_take (i := 1) (v := ?_) (by simp only [List.getElem?_toArray, List.getElem?_cons_succ, List.getElem?_cons_zero]; rfl) (by kernel_rfl) (by kernel_rfl) (by kernel_rfl) (by kernel_rfl) (by exact fun _ _ _ h => h) (Or.inl ⟨by rfl, ?_⟩) (item_cells2 H9.out.row) ?_
            rotate_left
            · (intro w' hSw; (try dsimp only at hSw); go_simp; try with_reducible rfl)
            try simp only [Act.put, List.setIfInBounds_toArray, List.set_cons_zero, List.set_cons_succ]
            refine wpAnyM_take (i := 2) (v := ?_) (by simp only [List.getElem?_toArray, List.getElem?_cons_succ, List.getElem?_cons_zero]; rfl) (by kernel_rfl) (by kernel_rfl) (by kernel_rfl) (by kernel_rfl) (by exact fun _ _ _ h => h) (Or.inl ⟨by rfl, ?_⟩) (item_cells2 H9.out.row) ?_
            rotate_left
            · (intro w' hSw; (try dsimp only at hSw); go_simp; try with_reducible rfl)
            try simp only [Act.put, List.setIfInBounds_toArray, List.set_cons_zero, List.set_cons_succ]
            refine wpAnyM_take (i := 4) (v := ?_) (by simp only [List.getElem?_toArray, List.getElem?_cons_succ, List.getElem?_cons_zero]; rfl) (by kernel_rfl) (by kernel_rfl) (by kernel_rfl) (by kernel_rfl) (by exact fun _ _ _ h => h) (Or.inl ⟨by rfl, ?_⟩) (item_cells2 H9.out.row) ?_
            rotate_left
            · (intro w' hSw; (try dsimp only at hSw); go_simp; try with_reducible rfl)
            try simp only [Act.put, List.setIfInBounds_toArray, List.set_cons_zero, List.set_cons_succ]
            refine wpAnyM_take (i := 5) (v := ?_) (by simp only [List.getElem?_toArray, List.getElem?_cons_succ, List.getElem?_cons_zero]; rfl) (by kernel_rfl) (by kernel_rfl) (by kernel_rfl) (by kernel_rfl) (by exact fun _ _ _ h => h) (Or.inl ⟨by rfl, ?_⟩) (item_cells2 H9.out.row) ?_
            rotate_left
            · (intro w' hSw; (try dsimp only at hSw); go_simp; try with_reducible rfl)
            try simp only [Act.put, List.setIfInBounds_toArray, List.set_cons_zero, List.set_cons_succ]
            refine wpAnyM_one (i := 3) (by kernel_rfl) (by simp only [List.getElem?_toArray, List.getElem?_cons_succ, List.getElem?_cons_zero]; rfl) ?_
            refine wpl_g8 (M := _) (A0 := A8) w1.heap.size (by rfl) (.tmp 55) (.tmp 57) (by rfl) A8 (m + 2 + 2) c8 (((YS ++ le8 (pkn : Int) 1) ++ le8 0 1) ++ le8 (pvn : Int) 2) pk pkn pkc qk (m + 2 + 2 + pkn) ((((YS ++ le8 (pkn : Int) 1) ++ le8 0 1) ++ le8 (pvn : Int) 2) ++ qk) (by rfl) (by rfl) H9.out.own (HB.out _ H9.out.bel).1 (by have := H9.out.bel.size; exact this) (by omega) (by omega) (by omega) (by first | rfl | simp only [List.append_assoc]) (GwS.refl _ _) ?_
            intro Av1 cv1 v1 hO hG
            have H10 := Aside0.mk (H9.out.grow hO.out hG.out)
            clear hO hG
            refine wpl_nil (And.intro rfl (And.intro (fun _ => item_cells2 H10.out.row) ?_))
            try simp only [Act.put, List.setIfInBounds_toArray, List.set_cons_zero, List.set_cons_succ]
            refine wpAnyM_one (i := 6) (by kernel_rfl) (by simp only [List.getElem?_toArray, List.getElem?_cons_succ, List.getElem?_cons_zero]; rfl) ?_
            refine wpl_g8 (M := _) (A0 := Av1) w1.heap.size (by rfl) (.tmp 58) (.tmp 60) (by rfl) Av1 (m + 2 + 2 + pkn) cv1 ((((YS ++ le8 (pkn : Int) 1) ++ le8 0 1) ++ le8 (pvn : Int) 2) ++ qk) pv pvn pvc qv (m + 2 + 2 + pkn + pvn) (((((YS ++ le8 (pkn : Int) 1) ++ le8 0 1) ++ le8 (pvn : Int) 2) ++ qk) ++ qv) (by rfl) (by rfl) H10.out.own (HB.out _ H10.out.bel).2 (by have := H10.out.bel.size; exact this) (by omega) (by omega) (by omega) (by first | rfl | simp only [List.append_assoc]) (GwS.refl _ _) ?_
            intro Av2 cv2 v2 hO hG
            have H11 := Aside0.mk (H10.out.grow hO.out hG.out)
            clear hO hG
            refine wpl_nil (And.intro rfl (And.intro (fun _ => item_cells2 H11.out.row) ?_))
            try simp only [Act.put, List.setIfInBounds_toArray, List.set_cons_zero, List.set_cons_succ]
            refine wpAnyM_take (i := 7) (v := ?_) (by simp only [List.getElem?_toArray, List.getElem?_cons_succ, List.getElem?_cons_zero]; rfl) (by kernel_rfl) (by kernel_rfl) (by kernel_rfl) (by kernel_rfl) (by exact fun _ _ _ h => h) (Or.inl ⟨by rfl, ?_⟩) (item_cells2 H11.out.row) ?_
            rotate_left
            · (intro w' hSw; (try dsimp only at hSw); go_simp; try with_reducible rfl)
            try simp only [Act.put, List.setIfInBounds_toArray, List.set_cons_zero, List.set_cons_succ]
            refine wpAnyM_done (by kernel_rfl) ?_ _
            go_wp2_with fail
            have HFN := Aside0.mk (show (v.items.take (j + 1)).flatMap (itemY g) = (((((YS ++ le8 (pkn : Int) 1) ++ le8 0 1) ++ le8 (pvn : Int) 2) ++ qk) ++ qv) by
              rw [List.take_add_one, HQ.out, Option.toList_some, List.flatMap_append, HYS.out, List.flatMap_cons, List.flatMap_nil, List.append_nil]
              exact HIY.out)
            have HLK := Aside0.mk (show ∀ q ∈ v.items.take (j + 1), lacksB q = false from fun q hq => by
              rw [List.take_add_one, HQ.out, Option.toList_some] at hq
              rcases List.mem_append.1 hq with hq | hq
              · exact hI.out.2.1 q hq
              · obtain rfl := List.mem_singleton.1 hq
                exact HNL.out)
            go_roundg (In - (j + 1))
            case measure => have := hk.out; omega
            case rel =>
              refine ⟨j + 1, Av2, m + 2 + 2 + pkn + pvn, cv2, (by show In - (j + 1) + (j + 1) = In; omega), rfl, by go_num, ⟨?_, HLK.out, ?_⟩⟩
              · rw [HFN.out]
                exact H11.out.back HRN.out
              · have h1 := items_bound HR.out (j + 1) HLK.out
                have h2 := H11.out.len
                rw [HFN.out] at h1
                omega
          case neg =>
            have d30 : (pr == 0) = false := beq_eq_false_iff_ne.2 hr0
            have hvn : pvn = 0 := by rcases HOK.out.z with z | z; exact absurd z.1 hr0; (have h := z.2.2.2; have := HQL.out.2; simp only at *; rw [h] at this; simp at this; omega)
            have HVN := Aside0.mk hvn
            have HPS := Aside0.mk (show longI qv.length ps pr = ps by unfold longI; rw [if_neg hr0])
            have HP2 := Aside0.mk (show 0 ≤ ps ∧ ps ≤ 1600 by have h1 := HOK.out.l; simp only at h1; rw [HPS.out] at h1; exact h1)
            have HR2 := Aside0.mk (show 0 ≤ pr ∧ pr ≤ 9223372036854775807 by rcases HOK.out.z with z | z; exact absurd z.1 hr0; (have h1 := z.2.1; have h2 := z.2.2.1; simp only at h1 h2; omega))
            have HIY := Aside0.mk (show YS ++ itemY g ⟨qk, qv, ps, pr⟩ = (((((YS ++ le8 (pkn : Int) 1) ++ le8 1 1) ++ le8 ps 2) ++ qk) ++ le8 pr (iwI g).toNat) by
              have hq0 : qv = [] := by rcases HOK.out.z with z | z; exact absurd z.1 hr0; exact z.2.2.2
              unfold itemY
              simp only [if_neg hr0, HQL.out.1, HPS.out]
              rw [hq0]
              simp only [List.append_assoc, List.nil_append])
            clear hr0 hvn
            go_upto_region 9 with fail
            have hA := hI.out.1.lit (.cells #[.slice pk pkn pkc, .slice pv pvn pvc, .int .i64 ps, .int .i64 pr] 119)
            have hN9 := (nd_cells ((hI.out.1.bel.block _ (Array.getElem?_eq_some_iff.1 HRN.out).1).trans HRN.out)).1
            obtain ⟨M, hM⟩ : ∃ X, wr.heap.size = X := ⟨_, rfl⟩
            obtain ⟨w2, hw2⟩ : ∃ X, wr.alloc (.cells #[.slice pk pkn pkc, .slice pv pvn pvc, .int .i64 ps, .int .i64 pr] 119) = X := ⟨_, rfl⟩
            rw [hw2, hM] at hA
            rw [hw2, hM]
            have H2 := Aside0.mk hA
            clear hA hw2 hM y0 y1 y2 c0 c1 c2 c3 hN9
            have HS := Aside0.mk (show ∀ X : World, X.heap[M]? = some (.cells #[.slice pk pkn pkc, .slice pv pvn pvc, .int .i64 ps, .int .i64 pr] 119) → _ from fun X hX => item_cells2 hX)
            obtain ⟨y0, y1, y2, y3⟩ := item_cells2 H2.out.row
            go_upto_region 11 with fail
            clear y0 y1 y2 y3
            obtain ⟨y0, y1, y2, y3⟩ := item_cells2 H2.out.row
            have hL := Bs.lit w2 w2.heap.size rfl #[.int .u8 (pkn : Int)] 5 (0, 0) 1 1 (le8 (pkn : Int) 1) (u8_lit pkn (by omega)) rfl (by omega) (by omega) (by omega)
            have H3 := Aside0.mk (And.intro (H2.out.step ((Below.refl _ w2).alloc (Nat.le_refl _) (.cells #[.int .u8 (pkn : Int)] 5))) hL)
            clear hL
            go_upto_region 12 with (at_builtin; refine wpl_g8 (M := _) (A0 := A) w1.heap.size (by rfl) _ _ (by rfl) A m c YS _ 1 1 (le8 (pkn : Int) 1) (m + 1) (YS ++ le8 (pkn : Int) 1) (by rfl) (by rfl) H3.out.1.own H3.out.2 H3.out.1.bel.size (by omega) (by omega) (by omega) rfl (GwS.refl _ _) ?_; intro A3 c3 w3 hO hG; (have H4 := Aside0.mk (H3.out.1.grow hO.out hG.out)); clear hO hG; clear y0 y1 y2 y3; (obtain ⟨y0, y1, y2, y3⟩ := item_cells2 H4.out.row))
            clear H3
            go_upto_region 15 with fail
            clear y0 y1 y2 y3
            have hA := H4.out.step (below_drew (Below.refl _ w3))
            obtain ⟨u0, hu0⟩ : ∃ X, w3.drew = X := ⟨_, rfl⟩
            rw [hu0] at hA
            have H5 := Aside0.mk hA
            clear hA
            refine wp_region_M (fun j => decide (j < 9)) (fun w' => w'.cell? ⟨M, 0, none⟩ = some (.slice pk pkn pkc) ∧ w'.cell? ⟨M, 1, none⟩ = some (.slice pv pvn pvc) ∧ w'.cell? ⟨M, 2, none⟩ = some (.int .i64 ps) ∧ w'.cell? ⟨M, 3, none⟩ = some (.int .i64 pr)) (by kernel_rfl) ?_
            rw [hu0]
            clear hu0
            refine wpAnyM_take (i := 0) (v := ?_) (by simp only [List.getElem?_toArray, List.getElem?_cons_succ, List.getElem?_cons_zero]; rfl) (by kernel_rfl) (by kernel_rfl) (by kernel_rfl) (by kernel_rfl) (by exact fun _ _ _ h => h) (Or.inl ⟨by rfl, ?_⟩) (item_cells2 H5.out.row) ?_
            rotate_left
            · (intro w' hSw; (try dsimp only at hSw); go_simp; try with_reducible rfl)
            try simp only [Act.put, List.setIfInBounds_toArray, List.set_cons_zero, List.set_cons_succ]
            refine wpAnyM_take (i := 3) (v := ?_) (by simp only [List.getElem?_toArray, List.getElem?_cons_succ, List.getElem?_cons_zero]; rfl) (by kernel_rfl) (by kernel_rfl) (by kernel_rfl) (by kernel_rfl) (by exact fun _ _ _ h => h) (Or.inl ⟨by rfl, ?_⟩) (item_cells2 H5.out.row) ?_
            rotate_left
            · (intro w' hSw; (try dsimp only at hSw); go_simp; try with_reducible rfl)
            try simp only [Act.put, List.setIfInBounds_toArray, List.set_cons_zero, List.set_cons_succ]
            refine wpAnyM_take (i := 4) (v := ?_) (by simp only [List.getElem?_toArray, List.getElem?_cons_succ, List.getElem?_cons_zero]; rfl) (by kernel_rfl) (by kernel_rfl) (by kernel_rfl) (by kernel_rfl) (by exact fun _ _ _ h => h) (Or.inl ⟨by rfl, ?_⟩) (item_cells2 H5.out.row) ?_
            rotate_left
            · (intro w' hSw; (try dsimp only at hSw); go_simp; try with_reducible rfl)
            try simp only [Act.put, List.setIfInBounds_toArray, List.set_cons_zero, List.set_cons_succ]
            refine wpAnyM_one (i := 1) (by kernel_rfl) (by simp only [List.getElem?_toArray, List.getElem?_cons_succ, List.getElem?_cons_zero]; rfl) ?_
            go_wp2_with fail
            have hL := Bs.lit u0 u0.heap.size rfl #[.int .u8 1] 5 (0, 0) 1 1 (le8 1 1) u8_lit1 rfl (by omega) (by omega) (by omega)
            have hA := H5.out.step ((Below.refl _ u0).alloc (Nat.le_refl _) (.cells #[.int .u8 1] 5))
            obtain ⟨NL, hNL⟩ : ∃ X, u0.heap.size = X := ⟨_, rfl⟩
            obtain ⟨u1, hWL⟩ : ∃ X, u0.alloc (.cells #[.int .u8 1] 5) = X := ⟨_, rfl⟩
            rw [hWL] at hL hA
            rw [hWL]
            rw [hNL] at hL
            rw [hNL]
            have H6 := Aside0.mk (And.intro hA hL)
            clear hL hA hWL hNL
            refine ⟨item_cells2 H6.out.1.row, ?_⟩
            try simp only [Act.put, List.setIfInBounds_toArray, List.set_cons_zero, List.set_cons_succ]
            refine wpAnyM_one (i := 2) (by kernel_rfl) (by simp only [List.getElem?_toArray, List.getElem?_cons_succ, List.getElem?_cons_zero]; rfl) ?_
            refine wpl_g8 (M := _) (A0 := A3) w1.heap.size (by rfl) (.tmp 62) (.tmp 63) (by rfl) A3 (m + 1) c3 (YS ++ le8 (pkn : Int) 1) (some ⟨NL, 0, none⟩) 1 1 (le8 1 1) (m + 2) ((YS ++ le8 (pkn : Int) 1) ++ le8 1 1) (by rfl) (by rfl) H6.out.1.own H6.out.2 (by have := H6.out.1.bel.size; exact this) (by omega) (by omega) (by omega) (by first | rfl | simp only [List.append_assoc]) (GwS.refl _ _) ?_
            intro Au2 cu2 u2 hO hG
            have H7 := Aside0.mk (H6.out.1.grow hO.out hG.out)
            clear hO hG
            refine wpl_nil (And.intro rfl (And.intro (fun _ => item_cells2 H7.out.row) ?_))
            try simp only [Act.put, List.setIfInBounds_toArray, List.set_cons_zero, List.set_cons_succ]
            refine wpAnyM_one (i := 5) (by kernel_rfl) (by simp only [List.getElem?_toArray, List.getElem?_cons_succ, List.getElem?_cons_zero]; rfl) ?_
            go_wp2_with (go_at_call 77; refine (rput7_grow w1.heap.size Au2 (m + 2) cu2 ((YS ++ le8 (pkn : Int) 1) ++ le8 1 1) ps 2 u2 HP2.out.1 (by have := HP2.out; omega) (by omega) (by omega) H7.out.bel.size H7.out.own).mono ?_; rintro e u3 ⟨A8, c8, rfl, hO, hG⟩; (have H8 := Aside0.mk (H7.out.grow hO hG)); clear hO hG)
            refine ⟨item_cells2 H8.out.row, ?_⟩
            try simp only [Act.put, List.setIfInBounds_toArray, List.set_cons_zero, List.set_cons_succ]
            refine wpAnyM_take (i := 6) (v := ?_) (by simp only [List.getElem?_toArray, List.getElem?_cons_succ, List.getElem?_cons_zero]; rfl) (by kernel_rfl) (by kernel_rfl) (by kernel_rfl) (by kernel_rfl) (by exact fun _ _ _ h => h) (Or.inl ⟨by rfl, ?_⟩) (item_cells2 H8.out.row) ?_
            rotate_left
            · (intro w' hSw; (try dsimp only at hSw); go_simp; try with_reducible rfl)
            try simp only [Act.put, List.setIfInBounds_toArray, List.set_cons_zero, List.set_cons_succ]
            refine wpAnyM_done (by kernel_rfl) ?_ _
            go_upto_region 16 with fail
            have hA := H8.out.step (below_drew (Below.refl _ u3))
            obtain ⟨v0, hu0⟩ : ∃ X, u3.drew = X := ⟨_, rfl⟩
            rw [hu0] at hA
            have H9 := Aside0.mk hA
            clear hA
            refine wp_region_M (fun j => decide (j < 9)) (fun w' => w'.cell? ⟨M, 0, none⟩ = some (.slice pk pkn pkc) ∧ w'.cell? ⟨M, 1, none⟩ = some (.slice pv pvn pvc) ∧ w'.cell? ⟨M, 2, none⟩ = some (.int .i64 ps) ∧ w'.cell? ⟨M, 3, none⟩ = some (.int .i64 pr)) (by kernel_rfl) ?_
            rw [hu0]
            clear hu0
            refine wpAnyM_take (i := 0) (v := ?_) (by simp only [List.getElem?_toArray, List.getElem?_cons_succ, List.getElem?_cons_zero]; rfl) (by kernel_rfl) (by kernel_rfl) (by kernel_rfl) (by kernel_rfl) (by exact fun _ _ _ h => h) (Or.inl ⟨by rfl, ?_⟩) (item_cells2 H9.out.row) ?_
            rotate_left
            · (intro w' hSw; (try dsimp only at hSw); go_simp; try with_reducible rfl)
            try simp only [Act.put, List.setIfInBounds_toArray, List.set_cons_zero, List.set_cons_succ]
            refine wpAnyM_take (i := 1) (v := ?_) (by simp only [List.getElem?_toArray, List.getElem?_cons_succ, List.getElem?_cons_zero]; rfl) (by kernel_rfl) (by kernel_rfl) (by kernel_rfl) (by kernel_rfl) (by exact fun _ _ _ h => h) (Or.inl ⟨by rfl, ?_⟩) (item_cells2 H9.out.row) ?_
            rotate_left
            · (intro w' hSw; (try dsimp only at hSw); go_simp; try with_reducible rfl)
            try simp only [Act.put, List.setIfInBounds_toArray, List.set_cons_zero, List.set_cons_succ]
            refine wpAnyM_take (i := 2) (v := ?_) (by simp only [List.getElem?_toArray, List.getElem?_cons_succ, List.getElem?_cons_zero]; rfl) (by kernel_rfl) (by kernel_rfl) (by kernel_rfl) (by kernel_rfl) (by exact fun _ _ _ h => h) (Or.inl ⟨by rfl, ?_⟩) (item_cells2 H9.out.row) ?_
            rotate_left
            · (intro w' hSw; (try dsimp only at hSw); go_simp; try with_reducible rfl)
            try simp only [Act.put, List.setIfInBounds_toArray, List.set_cons_zero, List.set_cons_succ]
            refine wpAnyM_take (i := 4) (v := ?_) (by simp only [List.getElem?_toArray, List.getElem?_cons_succ, List.getElem?_cons_zero]; rfl) (by kernel_rfl) (by kernel_rfl) (by kernel_rfl) (by kernel_rfl) (by exact fun _ _ _ h => h) (Or.inl ⟨by rfl, ?_⟩) (item_cells2 H9.out.row) ?_
            rotate_left
            · (intro w' hSw; (try dsimp only at hSw); go_simp; try with_reducible rfl)
            try simp only [Act.put, List.setIfInBounds_toArray, List.set_cons_zero, List.set_cons_succ]
            refine wpAnyM_take (i := 5) (v := ?_) (by simp only [List.getElem?_toArray, List.getElem?_cons_succ, List.getElem?_cons_zero]; rfl) (by kernel_rfl) (by kernel_rfl) (by kernel_rfl) (by kernel_rfl) (by exact fun _ _ _ h => h) (Or.inl ⟨by rfl, ?_⟩) (item_cells2 H9.out.row) ?_
            rotate_left
            · (intro w' hSw; (try dsimp only at hSw); go_simp; try with_reducible rfl)
            try simp only [Act.put, List.setIfInBounds_toArray, List.set_cons_zero, List.set_cons_succ]
            refine wpAnyM_take (i := 6) (v := ?_) (by simp only [List.getElem?_toArray, List.getElem?_cons_succ, List.getElem?_cons_zero]; rfl) (by kernel_rfl) (by kernel_rfl) (by kernel_rfl) (by kernel_rfl) (by exact fun _ _ _ h => h) (Or.inl ⟨by rfl, ?_⟩) (item_cells2 H9.out.row) ?_
            rotate_left
            · (intro w' hSw; (try dsimp only at hSw); go_simp; try with_reducible rfl)
            try simp only [Act.put, List.setIfInBounds_toArray, List.set_cons_zero, List.set_cons_succ]
            refine wpAnyM_one (i := 3) (by kernel_rfl) (by simp only [List.getElem?_toArray, List.getElem?_cons_succ, List.getElem?_cons_zero]; rfl) ?_
            refine wpl_g8 (M := _) (A0 := A8) w1.heap.size (by rfl) (.tmp 68) (.tmp 70) (by rfl) A8 (m + 2 + 2) c8 (((YS ++ le8 (pkn : Int) 1) ++ le8 1 1) ++ le8 ps 2) pk pkn pkc qk (m + 2 + 2 + pkn) ((((YS ++ le8 (pkn : Int) 1) ++ le8 1 1) ++ le8 ps 2) ++ qk) (by rfl) (by rfl) H9.out.own (HB.out _ H9.out.bel).1 (by have := H9.out.bel.size; exact this) (by omega) (by omega) (by omega) (by first | rfl | simp only [List.append_assoc]) (GwS.refl _ _) ?_
            intro Av1 cv1 v1 hO hG
            have H10 := Aside0.mk (H9.out.grow hO.out hG.out)
            clear hO hG
            refine wpl_nil (And.intro rfl (And.intro (fun _ => item_cells2 H10.out.row) ?_))
            try simp only [Act.put, List.setIfInBounds_toArray, List.set_cons_zero, List.set_cons_succ]
            refine wpAnyM_one (i := 7) (by kernel_rfl) (by simp only [List.getElem?_toArray, List.getElem?_cons_succ, List.getElem?_cons_zero]; rfl) ?_
            go_wp2_with (go_at_call 77; refine (rput7_iw w1.heap.size Av1 (m + 2 + 2 + pkn) cv1 ((((YS ++ le8 (pkn : Int) 1) ++ le8 1 1) ++ le8 ps 2) ++ qk) pr g v1 HR2.out.1 HR2.out.2 HIW.out HIW8.out (by omega) H10.out.bel.size H10.out.own).mono ?_; rintro e v2 ⟨A11, c11, rfl, hO, hG⟩; (have H11 := Aside0.mk (H10.out.grow hO hG)); clear hO hG)
            refine ⟨item_cells2 H11.out.row, ?_⟩
            try simp only [Act.put, List.setIfInBounds_toArray, List.set_cons_zero, List.set_cons_succ]
            refine wpAnyM_take (i := 8) (v := ?_) (by simp only [List.getElem?_toArray, List.getElem?_cons_succ, List.getElem?_cons_zero]; rfl) (by kernel_rfl) (by kernel_rfl) (by kernel_rfl) (by kernel_rfl) (by exact fun _ _ _ h => h) (Or.inl ⟨by rfl, ?_⟩) (item_cells2 H11.out.row) ?_
            rotate_left
            · (intro w' hSw; (try dsimp only at hSw); go_simp; try with_reducible rfl)
            try simp only [Act.put, List.setIfInBounds_toArray, List.set_cons_zero, List.set_cons_succ]
            refine wpAnyM_done (by kernel_rfl) ?_ _
            go_wp2_with fail
            have HFN := Aside0.mk (show (v.items.take (j + 1)).flatMap (itemY g) = (((((YS ++ le8 (pkn : Int) 1) ++ le8 1 1) ++ le8 ps 2) ++ qk) ++ le8 pr (iwI g).toNat) by
              rw [List.take_add_one, HQ.out, Option.toList_some, List.flatMap_append, HYS.out, List.flatMap_cons, List.flatMap_nil, List.append_nil]
              exact HIY.out)
            have HLK := Aside0.mk (show ∀ q ∈ v.items.take (j + 1), lacksB q = false from fun q hq => by
              rw [List.take_add_one, HQ.out, Option.toList_some] at hq
              rcases List.mem_append.1 hq with hq | hq
              · exact hI.out.2.1 q hq
              · obtain rfl := List.mem_singleton.1 hq
                exact HNL.out)
            go_roundg (In - (j + 1))
            case measure => have := hk.out; omega
            case rel =>
              refine ⟨j + 1, A11, m + 2 + 2 + pkn + (iwI g).toNat, c11, (by show In - (j + 1) + (j + 1) = In; omega), rfl, by go_num, ⟨?_, HLK.out, ?_⟩⟩
              · rw [HFN.out]
                exact H11.out.back HRN.out
              · have h1 := items_bound HR.out (j + 1) HLK.out
                have h2 := H11.out.len
                rw [HFN.out] at h1
                omega
      · obtain rfl : In = j := by omega
        have d1 : decide ((In : Int) < (In : Int)) = false := by simp
        have h9 := hI.out
        rw [List.take_of_length_le (by rw [HLL.out.1]; exact Nat.le_refl _)] at h9
        have HOKE := Aside0.mk (show encOk g v = true by
          unfold encOk
          rw [HR.out, Bool.true_and, Bool.not_eq_true']
          cases hl : v.items.any lacksB with
          | false => rfl
          | true =>
            obtain ⟨q, hq, hq2⟩ := List.any_eq_true.1 hl
            rw [h9.2.1 q hq] at hq2
            cases hq2)
        obtain ⟨Y1, hY1⟩ : ∃ x, v.items.flatMap (itemY g) = x := ⟨_, rfl⟩
        rw [hY1] at h9
        have HY1 := Aside0.mk hY1
        have H9 := Aside0.mk h9
        clear h9 hI hk hY1 hmb
        go_wp2_with fail
        clear y0 y1 y2
        go_loopg [6, 10] Kn (fun gk v6 v10 wr => ∃ (j : Nat) (A : Option Addr) (m c : Nat), Aside (gk + j = Kn) ∧ v6 = .slice A m c ∧ v10 = .int .i64 (j : Int) ∧ Aside0 (EM w1 N (.cells #[.bool lf, .slice IA In Ic, .slice KA Kn Kc] 63) A m c (Y1 ++ (v.kids.take j).flatMap (kidY g)) wr ∧ m ≤ 496))
        case atStart => exact ⟨0, A, m, c, rfl, rfl, rfl, ⟨by simpa using H9.out.1, by have := H9.out.2.2; omega⟩⟩
        case round =>
          obtain ⟨j, A, m, c, hk, rfl, rfl, hI⟩ := hrel
          have hjm : j ≤ Kn := by have := hk.out; omega
          obtain ⟨y0, y1, y2⟩ := nd_cells hI.out.1.row
          have hmb := hI.out.2
          rcases Nat.lt_or_ge j Kn with hlt | hge
          · have d2 : decide ((j : Int) < (Kn : Int)) = true := decide_eq_true (by omega)
            have hjn : (j : Int) < (Kn : Int) := by omega
            have hNd := HND.out
            obtain ⟨ad, p, e0, hp, c0, c1⟩ := hNd.rk.kid hNd.lk j hlt
            obtain ⟨q, hq, bk, er⟩ := hNd.kds.each j p hp
            simp only at e0
            subst e0
            obtain ⟨⟨pk, pkn, pkc⟩, pr⟩ := p
            obtain ⟨qk, qr⟩ := q
            unfold shv at c0
            unfold Bsh at bk
            simp only at c0 c1 bk er
            subst er
            have HQ := Aside0.mk hq
            have HOK := Aside0.mk (right_kids HR.out _ (List.mem_of_getElem? hq))
            have HQL := Aside0.mk bk.len
            have hkk : pkn ≤ 24 := by have h1 := HOK.out.k; have h2 := HQL.out; simp only at h1; omega
            have HR2 := Aside0.mk (show 0 ≤ pr ∧ pr ≤ 9223372036854775807 by have h1 := HOK.out.r; simp only at h1; omega)
            have HB := Aside0.mk (show ∀ X : World, Below w1.heap.size w1 X → Bs X pk pkn pkc qk from fun X hX => bk.below hX)
            have HC := Aside0.mk (show ∀ X : World, Below w1.heap.size w1 X → X.cell? (ad.add (j * 2)) = some (.slice pk pkn pkc) ∧ X.cell? ⟨(ad.add (j * 2)).block, (ad.add (j * 2)).off + 1, none⟩ = some (.int .i64 pr) from fun X hX => ⟨(hX.cell (World.block_lt_of_cell? _ _ c0)).trans c0, (hX.cell (World.block_lt_of_cell? _ _ c1)).trans c1⟩)
            obtain ⟨YS, hYS⟩ : ∃ x, Y1 ++ (v.kids.take j).flatMap (kidY g) = x := ⟨_, rfl⟩
            rw [hYS] at hI
            have HYS := Aside0.mk hYS
            clear hYS hp hq bk hNd c0 c1
            go_upto_region 20 with fail
            clear y0 y1 y2
            have hA := hI.out.1.step (below_drew (Below.refl _ wr))
            obtain ⟨u0, hu0⟩ : ∃ X, wr.drew = X := ⟨_, rfl⟩
            rw [hu0] at hA
            have H5 := Aside0.mk hA
            clear hA
            have HS := Aside0.mk (show ∀ X : World, Below w1.heap.size w1 X ∧ X.heap[N]? = some (.cells #[.bool lf, .slice IA In Ic, .slice (some ad) Kn Kc] 63) → X.cell? ⟨N, 2, none⟩ = some (.slice (some ad) Kn Kc) ∧ X.cell? (ad.add (j * 2)) = some (.slice pk pkn pkc) from fun X hX => ⟨(nd_cells hX.2).2.2, (HC.out X hX.1).1⟩)
            refine wp_region_M (fun j => decide (j < 19)) (fun w' => w'.cell? ⟨N, 2, none⟩ = some (.slice (some ad) Kn Kc) ∧ w'.cell? (ad.add (j * 2)) = some (.slice pk pkn pkc)) (by kernel_rfl) ?_
            rw [hu0]
            clear hu0
            refine wpAnyM_take (i := 0) (v := ?_) (by simp only [List.getElem?_toArray, List.getElem?_cons_succ, List.getElem?_cons_zero]; rfl) (by kernel_rfl) (by kernel_rfl) (by kernel_rfl) (by kernel_rfl) (by exact fun _ _ _ h => h) (Or.inl ⟨by rfl, ?_⟩) (HS.out _ ⟨H5.out.bel, H5.out.row⟩) ?_
            rotate_left
            · (intro w' hSw; (try dsimp only at hSw); go_simp; try with_reducible rfl)
            try simp only [Act.put, List.setIfInBounds_toArray, List.set_cons_zero, List.set_cons_succ]
            refine wpAnyM_take (i := 1) (v := ?_) (by simp only [List.getElem?_toArray, List.getElem?_cons_succ, List.getElem?_cons_zero]; rfl) (by kernel_rfl) (by kernel_rfl) (by kernel_rfl) (by kernel_rfl) (by exact fun _ _ _ h => h) (Or.inl ⟨by rfl, ?_⟩) (HS.out _ ⟨H5.out.bel, H5.out.row⟩) ?_
            rotate_left
            · (intro w' hSw; (try dsimp only at hSw); go_simp; try with_reducible rfl)
            try simp only [Act.put, List.setIfInBounds_toArray, List.set_cons_zero, List.set_cons_succ]
            refine wpAnyM_take (i := 2) (v := ?_) (by simp only [List.getElem?_toArray, List.getElem?_cons_succ, List.getElem?_cons_zero]; rfl) (by kernel_rfl) (by kernel_rfl) (by kernel_rfl) (by kernel_rfl) (by exact fun _ _ _ h => h) (Or.inl ⟨by rfl, ?_⟩) (HS.out _ ⟨H5.out.bel, H5.out.row⟩) ?_
            rotate_left
            · (intro w' hSw; (try dsimp only at hSw); go_simp; try with_reducible rfl)
            try simp only [Act.put, List.setIfInBounds_toArray, List.set_cons_zero, List.set_cons_succ]
            refine wpAnyM_take (i := 3) (v := ?_) (by simp only [List.getElem?_toArray, List.getElem?_cons_succ, List.getElem?_cons_zero]; rfl) (by kernel_rfl) (by kernel_rfl) (by kernel_rfl) (by kernel_rfl) (by exact fun _ _ _ h => h) (Or.inl ⟨by rfl, ?_⟩) (HS.out _ ⟨H5.out.bel, H5.out.row⟩) ?_
            rotate_left
            · (intro w' hSw; (try dsimp only at hSw); go_simp; try with_reducible rfl)
            try simp only [Act.put, List.setIfInBounds_toArray, List.set_cons_zero, List.set_cons_succ]
            refine wpAnyM_take (i := 4) (v := ?_) (by simp only [List.getElem?_toArray, List.getElem?_cons_succ, List.getElem?_cons_zero]; rfl) (by kernel_rfl) (by kernel_rfl) (by kernel_rfl) (by kernel_rfl) (by exact fun _ _ _ h => h) (Or.inl ⟨by rfl, ?_⟩) (HS.out _ ⟨H5.out.bel, H5.out.row⟩) ?_
            rotate_left
            · (intro w' hSw; (try dsimp only at hSw); go_simp; try with_reducible rfl)
            try simp only [Act.put, List.setIfInBounds_toArray, List.set_cons_zero, List.set_cons_succ]
            refine wpAnyM_take (i := 5) (v := ?_) (by simp only [List.getElem?_toArray, List.getElem?_cons_succ, List.getElem?_cons_zero]; rfl) (by kernel_rfl) (by kernel_rfl) (by kernel_rfl) (by kernel_rfl) (by exact fun _ _ _ h => h) (Or.inl ⟨by rfl, ?_⟩) (HS.out _ ⟨H5.out.bel, H5.out.row⟩) ?_
            rotate_left
            · (intro w' hSw; (try dsimp only at hSw); go_simp; try with_reducible rfl)
            try simp only [Act.put, List.setIfInBounds_toArray, List.set_cons_zero, List.set_cons_succ]
            refine wpAnyM_take (i := 6) (v := ?_) (by simp only [List.getElem?_toArray, List.getElem?_cons_succ, List.getElem?_cons_zero]; rfl) (by kernel_rfl) (by kernel_rfl) (by kernel_rfl) (by kernel_rfl) (by exact fun _ _ _ h => h) (Or.inl ⟨by rfl, ?_⟩) (HS.out _ ⟨H5.out.bel, H5.out.row⟩) ?_
            rotate_left
            · (intro w' hSw; (try dsimp only at hSw); go_simp; try with_reducible rfl)
            try simp only [Act.put, List.setIfInBounds_toArray, List.set_cons_zero, List.set_cons_succ]
            refine wpAnyM_take (i := 7) (v := ?_) (by simp only [List.getElem?_toArray, List.getElem?_cons_succ, List.getElem?_cons_zero]; rfl) (by kernel_rfl) (by kernel_rfl) (by kernel_rfl) (by kernel_rfl) (by exact fun _ _ _ h => h) (Or.inl ⟨by rfl, ?_⟩) (HS.out _ ⟨H5.out.bel, H5.out.row⟩) ?_
            rotate_left
            · (intro w' hSw; (try dsimp only at hSw); go_simp; try with_reducible rfl)
            try simp only [Act.put, List.setIfInBounds_toArray, List.set_cons_zero, List.set_cons_succ]
            refine wpAnyM_take (i := 8) (v := ?_) (by simp only [List.getElem?_toArray, List.getElem?_cons_succ, List.getElem?_cons_zero]; rfl) (by kernel_rfl) (by kernel_rfl) (by kernel_rfl) (by kernel_rfl) (by exact fun _ _ _ h => h) (Or.inl ⟨by rfl, ?_⟩) (HS.out _ ⟨H5.out.bel, H5.out.row⟩) ?_
            rotate_left
            · (intro w' hSw; (try dsimp only at hSw); go_simp; try with_reducible rfl)
            try simp only [Act.put, List.setIfInBounds_toArray, List.set_cons_zero, List.set_cons_succ]
            refine wpAnyM_take (i := 11) (v := ?_) (by simp only [List.getElem?_toArray, List.getElem?_cons_succ, List.getElem?_cons_zero]; rfl) (by kernel_rfl) (by kernel_rfl) (by kernel_rfl) (by kernel_rfl) (by exact fun _ _ _ h => h) (Or.inl ⟨by rfl, ?_⟩) (HS.out _ ⟨H5.out.bel, H5.out.row⟩) ?_
            rotate_left
            · (intro w' hSw; (try dsimp only at hSw); go_simp; try with_reducible rfl)
            try simp only [Act.put, List.setIfInBounds_toArray, List.set_cons_zero, List.set_cons_succ]
            refine wpAnyM_take (i := 12) (v := ?_) (by simp only [List.getElem?_toArray, List.getElem?_cons_succ, List.getElem?_cons_zero]; rfl) (by kernel_rfl) (by kernel_rfl) (by kernel_rfl) (by kernel_rfl) (by exact fun _ _ _ h => h) (Or.inl ⟨by rfl, ?_⟩) (HS.out _ ⟨H5.out.bel, H5.out.row⟩) ?_
            rotate_left
            · (intro w' hSw; (try dsimp only at hSw); go_simp; try with_reducible rfl)
            try simp only [Act.put, List.setIfInBounds_toArray, List.set_cons_zero, List.set_cons_succ]
            refine wpAnyM_take (i := 13) (v := ?_) (by simp only [List.getElem?_toArray, List.getElem?_cons_succ, List.getElem?_cons_zero]; rfl) (by kernel_rfl) (by kernel_rfl) (by kernel_rfl) (by kernel_rfl) (by exact fun _ _ _ h => h) (Or.inl ⟨by rfl, ?_⟩) (HS.out _ ⟨H5.out.bel, H5.out.row⟩) ?_
            rotate_left
            · (intro w' hSw; (try dsimp only at hSw); go_simp; try with_reducible rfl)
            try simp only [Act.put, List.setIfInBounds_toArray, List.set_cons_zero, List.set_cons_succ]
            refine wpAnyM_take (i := 14) (v := ?_) (by simp only [List.getElem?_toArray, List.getElem?_cons_succ, List.getElem?_cons_zero]; rfl) (by kernel_rfl) (by kernel_rfl) (by kernel_rfl) (by kernel_rfl) (by exact fun _ _ _ h => h) (Or.inl ⟨by rfl, ?_⟩) (HS.out _ ⟨H5.out.bel, H5.out.row⟩) ?_
            rotate_left
            · (intro w' hSw; (try dsimp only at hSw); go_simp; try with_reducible rfl)
            try simp only [Act.put, List.setIfInBounds_toArray, List.set_cons_zero, List.set_cons_succ]
            refine wpAnyM_take (i := 15) (v := ?_) (by simp only [List.getElem?_toArray, List.getElem?_cons_succ, List.getElem?_cons_zero]; rfl) (by kernel_rfl) (by kernel_rfl) (by kernel_rfl) (by kernel_rfl) (by exact fun _ _ _ h => h) (Or.inl ⟨by rfl, ?_⟩) (HS.out _ ⟨H5.out.bel, H5.out.row⟩) ?_
            rotate_left
            · (intro w' hSw; (try dsimp only at hSw); go_simp; try with_reducible rfl)
            try simp only [Act.put, List.setIfInBounds_toArray, List.set_cons_zero, List.set_cons_succ]
            refine wpAnyM_take (i := 16) (v := ?_) (by simp only [List.getElem?_toArray, List.getElem?_cons_succ, List.getElem?_cons_zero]; rfl) (by kernel_rfl) (by kernel_rfl) (by kernel_rfl) (by kernel_rfl) (by exact fun _ _ _ h => h) (Or.inl ⟨by rfl, ?_⟩) (HS.out _ ⟨H5.out.bel, H5.out.row⟩) ?_
            rotate_left
            · (intro w' hSw; (try dsimp only at hSw); go_simp; try with_reducible rfl)
            try simp only [Act.put, List.setIfInBounds_toArray, List.set_cons_zero, List.set_cons_succ]
            refine wpAnyM_one (i := 9) (by kernel_rfl) (by simp only [List.getElem?_toArray, List.getElem?_cons_succ, List.getElem?_cons_zero]; rfl) ?_
            go_wp2_with fail
            have hL := Bs.lit u0 u0.heap.size rfl #[.int .u8 (pkn : Int)] 5 (0, 0) 1 1 (le8 (pkn : Int) 1) (u8_lit pkn (by omega)) rfl (by omega) (by omega) (by omega)
            have hA := H5.out.step ((Below.refl _ u0).alloc (Nat.le_refl _) (.cells #[.int .u8 (pkn : Int)] 5))
            obtain ⟨NL, hNL⟩ : ∃ X, u0.heap.size = X := ⟨_, rfl⟩
            obtain ⟨u1, hWL⟩ : ∃ X, u0.alloc (.cells #[.int .u8 (pkn : Int)] 5) = X := ⟨_, rfl⟩
            rw [hWL] at hL hA
            rw [hWL]
            rw [hNL] at hL
            rw [hNL]
            have H6 := Aside0.mk (And.intro hA hL)
            clear hL hA hWL hNL
            refine ⟨HS.out _ ⟨H6.out.1.bel, H6.out.1.row⟩, ?_⟩
            try simp only [Act.put, List.setIfInBounds_toArray, List.set_cons_zero, List.set_cons_succ]
            refine wpAnyM_one (i := 10) (by kernel_rfl) (by simp only [List.getElem?_toArray, List.getElem?_cons_succ, List.getElem?_cons_zero]; rfl) ?_
            refine wpl_g8 (M := _) (A0 := A) w1.heap.size (by rfl) (.tmp 83) (.tmp 92) (by rfl) A (m) c YS (some ⟨NL, 0, none⟩) 1 1 (le8 (pkn : Int) 1) (m + 1) (YS ++ le8 (pkn : Int) 1) (by rfl) (by rfl) H6.out.1.own H6.out.2 (by have := H6.out.1.bel.size; exact this) (by omega) (by omega) (by omega) (by first | rfl | simp only [List.append_assoc]) (GwS.refl _ _) ?_
            intro Au2 cu2 u2 hO hG
            have H7 := Aside0.mk (H6.out.1.grow hO.out hG.out)
            clear hO hG
            refine wpl_nil (And.intro rfl (And.intro (fun _ => HS.out _ ⟨H7.out.bel, H7.out.row⟩) ?_))
            try simp only [Act.put, List.setIfInBounds_toArray, List.set_cons_zero, List.set_cons_succ]
            refine wpAnyM_one (i := 17) (by kernel_rfl) (by simp only [List.getElem?_toArray, List.getElem?_cons_succ, List.getElem?_cons_zero]; rfl) ?_
            refine wpl_g8 (M := _) (A0 := Au2) w1.heap.size (by rfl) (.tmp 93) (.tmp 99) (by rfl) Au2 (m + 1) cu2 (YS ++ le8 (pkn : Int) 1) pk pkn pkc qk (m + 1 + pkn) ((YS ++ le8 (pkn : Int) 1) ++ qk) (by rfl) (by rfl) H7.out.own (HB.out _ H7.out.bel) (by have := H7.out.bel.size; exact this) (by omega) (by omega) (by omega) (by first | rfl | simp only [List.append_assoc]) (GwS.refl _ _) ?_
            intro Au3 cu3 u3 hO hG
            have H8 := Aside0.mk (H7.out.grow hO.out hG.out)
            clear hO hG
            refine wpl_nil (And.intro rfl (And.intro (fun _ => HS.out _ ⟨H8.out.bel, H8.out.row⟩) ?_))
            try simp only [Act.put, List.setIfInBounds_toArray, List.set_cons_zero, List.set_cons_succ]
            refine wpAnyM_take (i := 18) (v := ?_) (by simp only [List.getElem?_toArray, List.getElem?_cons_succ, List.getElem?_cons_zero]; rfl) (by kernel_rfl) (by kernel_rfl) (by kernel_rfl) (by kernel_rfl) (by exact fun _ _ _ h => h) (Or.inl ⟨by rfl, ?_⟩) (HS.out _ ⟨H8.out.bel, H8.out.row⟩) ?_
            rotate_left
            · (intro w' hSw; (try dsimp only at hSw); go_simp; try with_reducible rfl)
            try simp only [Act.put, List.setIfInBounds_toArray, List.set_cons_zero, List.set_cons_succ]
            refine wpAnyM_done (by kernel_rfl) ?_ _
            obtain ⟨y0, y1, y2⟩ := nd_cells H8.out.row
            obtain ⟨c0, c1⟩ := HC.out _ H8.out.bel
            have hiw := HIW.out
            go_wp2_with (go_at_call 77; refine (rput7_iw w1.heap.size Au3 (m + 1 + pkn) cu3 ((YS ++ le8 (pkn : Int) 1) ++ qk) pr g u3 HR2.out.1 HR2.out.2 HIW.out HIW8.out (by omega) H8.out.bel.size H8.out.own).mono ?_; rintro e u4 ⟨A11, c11, rfl, hO, hG⟩; (have H11 := Aside0.mk (H8.out.grow hO hG)); clear hO hG)
            have HFN := Aside0.mk (show Y1 ++ (v.kids.take (j + 1)).flatMap (kidY g) = (((YS ++ le8 (pkn : Int) 1) ++ qk) ++ le8 pr (iwI g).toNat) by
              rw [List.take_add_one, HQ.out, Option.toList_some, List.flatMap_append, ← HYS.out, List.flatMap_cons, List.flatMap_nil, List.append_nil]
              unfold kidY
              simp only [HQL.out, List.append_assoc])
            go_roundg (Kn - (j + 1))
            case measure => have := hk.out; omega
            case rel =>
              refine ⟨j + 1, A11, m + 1 + pkn + (iwI g).toNat, c11, (by show Kn - (j + 1) + (j + 1) = Kn; omega), rfl, by go_num, ⟨?_, ?_⟩⟩
              · rw [HFN.out]
                exact H11.out
              · have h1 := kids_bound HR.out (j + 1)
                have h2 := H11.out.len
                have h3 : Y1.length ≤ 248 := by
                  have := items_bound HR.out In (fun q hq => H9.out.2.1 q (List.mem_of_mem_take hq))
                  rw [List.take_of_length_le (by rw [HLL.out.1]; exact Nat.le_refl _), HY1.out] at this
                  exact this
                rw [← HFN.out, List.length_append] at h2
                omega
          · obtain rfl : Kn = j := by omega
            have d2 : decide ((Kn : Int) < (Kn : Int)) = false := by simp
            have h9 := hI.out.1
            rw [List.take_of_length_le (by rw [HLL.out.2]; exact Nat.le_refl _), ← HY1.out, encY_all HR.out] at h9
            have H10 := Aside0.mk h9
            have HEN := Aside0.mk (enc_rw HOKE.out)
            have HEL := Aside0.mk h9.len
            clear h9 hk
            cases lf with
            | true =>
              have HKC := Aside0.mk (show encK v = 76 ∧ encC v = (In : Int) from ⟨by unfold encK; rw [← HLF.out]; rfl, by unfold encC; rw [← HLF.out]; simp [HLL.out]⟩)
              have cW := rwrap_any 76 g (In : Int) 0 A m c (encY g v) wr H10.out.own.bs (by omega) (by omega)
              have hWE := HEN.out
              rw [HKC.out.1, HKC.out.2, HEL.out] at hWE
              rw [← hWE.1, ← hWE.2] at cW
              clear hWE hI
              go_wp2_with (go_at_call 36; refine cW.mono ?_; rintro e x1 ⟨A12, c12, rfl, hO, hB⟩; (have H12 := Aside0.mk (And.intro hO (below_then H10.out.bel H10.out.bel.size hB))); clear hO hB)
              go_ret2
              exact ⟨A12, c12, rfl, H12.out.1.mono (Nat.le_trans H0B.out.size H10.out.bel.size), below_then H0B.out H0B.out.size H12.out.2⟩
            | false =>
              have HKC := Aside0.mk (show encK v = 66 ∧ encC v = (Kn : Int) from ⟨by unfold encK; rw [← HLF.out]; rfl, by unfold encC; rw [← HLF.out]; simp [HLL.out]⟩)
              have cW := rwrap_any 66 g (Kn : Int) 0 A m c (encY g v) wr H10.out.own.bs (by omega) (by omega)
              have hWE := HEN.out
              rw [HKC.out.1, HKC.out.2, HEL.out] at hWE
              rw [← hWE.1, ← hWE.2] at cW
              clear hWE hI
              go_wp2_with (go_at_call 36; refine cW.mono ?_; rintro e x1 ⟨A12, c12, rfl, hO, hB⟩; (have H12 := Aside0.mk (And.intro hO (below_then H10.out.bel H10.out.bel.size hB))); clear hO hB)
              go_ret2
              exact ⟨A12, c12, rfl, H12.out.1.mono (Nat.le_trans H0B.out.size H10.out.bel.size), below_then H0B.out H0B.out.size H12.out.2⟩
end Go.Proofs.Ytbjfklgmbeaaoaa
