/- The walk of page's Encode. -/
import Derived.Test.YtbjfklgmbeaaoaaGreatKC
set_option linter.unusedVariables false
set_option linter.unusedSimpArgs false
namespace Go.Proofs.YtbjfklgmbeaaoaaGreat
open Go.RowKit

theorem HWr.lit {w W : World} {g g2 c : Nat} {R : List (Nat × Obj)} {s : WS} (h : HWr w g g2 c R s W) (o : Obj) : HWr w g g2 c ((W.heap.size, o) :: R) s (W.alloc o) := by
  have h1 := h.step ((Below.refl _ W).alloc (Nat.le_refl _) o)
  refine ⟨h1.wr, h1.bel, fun p hp => ?_⟩
  have := h.wr.lt
  rcases List.mem_cons.1 hp with rfl | hp
  · exact ⟨heap_alloc_new W o, by show W.heap.size ≠ g; omega, by show W.heap.size ≠ g2; omega⟩
  · exact h1.rows p hp
theorem HWr.perm {w W : World} {g g2 c : Nat} {R R1 : List (Nat × Obj)} {s : WS} (h : HWr w g g2 c R s W) (hs : ∀ p ∈ R1, p ∈ R) : HWr w g g2 c R1 s W := ⟨h.wr, h.bel, fun p hp => h.rows p (hs p hp)⟩
theorem HWr.turn {w W W1 : World} {g g2 c : Nat} {R : List (Nat × Obj)} {s : WS} {i : Nat} {o o1 : Obj} (h : HWr w g g2 c ((i, o) :: R) s W) (ho : OnlyB i W W1) (hi : w.heap.size ≤ i) (hne : ∀ p ∈ R, p.1 ≠ i) (hr : W1.heap[i]? = some o1) : HWr w g g2 c ((i, o1) :: R) s W1 := by
  have hii := h.rows (i, o) List.mem_cons_self
  refine ⟨⟨⟨(ho.block _ (Array.getElem?_eq_some_iff.1 h.wr.cur.row).1 (fun e => hii.2.1 e.symm)).trans h.wr.cur.row, h.wr.cur.le, h.wr.cur.lim, h.wr.cur.nc⟩, h.wr.own.only ho (fun k e => by injection e with e; injection e with e; rw [← e]; exact fun z => hii.2.2 z.symm), h.wr.ne, h.wr.lo, h.wr.lo2⟩, ho.below h.bel hi (Nat.le_refl _), fun p hp => ?_⟩
  rcases List.mem_cons.1 hp with rfl | hp
  · exact ⟨hr, hii.2⟩
  · have hq := h.rows p (List.mem_cons_of_mem _ hp)
    exact ⟨(ho.block _ (Array.getElem?_eq_some_iff.1 hq.1).1 (hne p hp)).trans hq.1, hq.2⟩
theorem HWr.ap {w W : World} {g g2 c0 : Nat} {R : List (Nat × Obj)} {s : WS} {A : Option Addr} {n c : Nat} {xs : List UInt8} (h : HWr w g g2 c0 R s W) (hb : Bs w A n c xs) : Ap g g2 A n := ⟨(h.apart hb).1, (h.apart hb).2⟩
theorem nwN_cap (g : Int) : nwN (cpI g) = (cpI g).toNat := by
  have : 0 ≤ cpI g ∧ cpI g ≤ 2000 := gen3_range g _ _ _ (by omega) (by omega) (by omega)
  unfold nwN
  rw [if_pos ⟨this.1, by omega⟩]
set_option maxHeartbeats 3000000 in
set_option maxRecDepth 100000 in
theorem pencode_any (h : NH) (is : List IH) (ks : List KH) (v : NV) (g : Int) (w : World) (hn : Nd w h is ks v) :
    Calls Tryz.prog 10 #[.int .i64 g, .agg (nhv h)] w fun e w' => ∃ A1 c1, e = .returned (.tuple #[.slice A1 (pgB g v).length c1, .int .i64 (pgE g v)]) ∧ Ow w' w.heap.size A1 (pgB g v).length c1 (pgB g v) ∧ Below w.heap.size w w' := by
  obtain ⟨lf, ⟨IA, In, Ic⟩, ⟨KA, Kn, Kc⟩⟩ := h
  have HLF := Aside0.mk (show lf = v.leaf from hn.leaf)
  have hbi : In ≤ 1000 := hn.bi
  have hbk : Kn ≤ 1000 := hn.bk
  have h0B := (Below.refl _ w).alloc (Nat.le_refl _) (.cells #[.bool lf, .slice IA In Ic, .slice KA Kn Kc] 28)
  have HNd := Aside0.mk hn
  have H0 := Aside0.mk (And.intro (hn.below h0B) (And.intro (heap_alloc_new w (.cells #[.bool lf, .slice IA In Ic, .slice KA Kn Kc] 28)) h0B))
  have HLL := Aside0.mk (show v.items.length = In ∧ v.kids.length = Kn from ⟨by rw [← hn.its.len]; exact hn.li, by rw [← hn.kds.len]; exact hn.lk⟩)
  clear hn h0B
  have cR := fun (X : World) (hX : Nd X ⟨lf, (IA, In, Ic), (KA, Kn, Kc)⟩ is ks v) => nright_any ⟨lf, (IA, In, Ic), (KA, Kn, Kc)⟩ is ks v g X hX
  simp only [nhv] at cR
  show Calls Tryz.prog 10 #[.int .i64 g, .agg #[.bool lf, .slice IA In Ic, .slice KA Kn Kc]] w _
  go_enter Tryz.func10, Tryz.ntmps10
  go_upto_region 2 with fail
  obtain ⟨w0, hw0⟩ : ∃ X, w.alloc (.cells #[.bool lf, .slice IA In Ic, .slice KA Kn Kc] 28) = X := ⟨_, rfl⟩
  obtain ⟨N, hN⟩ : ∃ X, w.heap.size = X := ⟨_, rfl⟩
  rw [hw0, hN] at H0
  rw [hw0, hN]
  have HN := Aside0.mk hN
  have H0B := Aside0.mk (show Below w.heap.size w w0 by rw [hN]; exact H0.out.2.2)
  clear hw0 hN
  obtain ⟨y0, y1, y2⟩ := nd_cells H0.out.2.1
  have HS := Aside0.mk (show ∀ X : World, X.heap[N]? = some (.cells #[.bool lf, .slice IA In Ic, .slice KA Kn Kc] 28) → X.cell? ⟨N, 0, none⟩ = some (.bool lf) ∧ X.cell? ⟨N, 1, none⟩ = some (.slice IA In Ic) ∧ X.cell? ⟨N, 2, none⟩ = some (.slice KA Kn Kc) from fun X hX => nd_cells hX)
  have HT := Aside0.mk (show ∀ X : World, Below w.heap.size w X → Nd X ⟨lf, (IA, In, Ic), (KA, Kn, Kc)⟩ is ks v from fun X hX => HNd.out.below hX)
  cases hr : rightN g v with
  | false =>
    have HR := Aside0.mk hr
    have HE := Aside0.mk (show pgE g v = 73 ∧ pgB g v = [] by
      have h1 : pgE g v = 73 := by unfold pgE encOk; rw [hr]; rfl
      exact ⟨h1, by unfold pgB; rw [h1]; rfl⟩)
    clear hr
    go_wp2_with (go_at_call 31; refine (cR w0 H0.out.1).mono ?_; rintro e w1 ⟨rfl, hB⟩; rw [HR.out]; (have H1 := Aside0.mk (below_then H0B.out H0B.out.size hB)); clear hB)
    go_ret2
    rw [HE.out.1, HE.out.2]
    exact ⟨none, 0, rfl, Ow.nil _ _, H1.out⟩
  | true =>
    have HR := Aside0.mk hr
    have HBD := Aside0.mk (right_bnd hr)
    cases hl : v.items.any lacksB with
    | true =>
      have HLK := Aside0.mk hl
      have HE := Aside0.mk (show pgE g v = 73 ∧ pgB g v = [] by
        have h1 : pgE g v = 73 := by unfold pgE encOk; rw [hr, hl]; rfl
        exact ⟨h1, by unfold pgB; rw [h1]; rfl⟩)
      clear hr hl
      go_wp2_with (first
        | (go_at_call 31; refine (cR w0 H0.out.1).mono ?_; rintro e w1 ⟨rfl, hB⟩; rw [HR.out]; (have H1 := Aside0.mk (And.intro (below_then H0B.out H0B.out.size hB) ((hB.block _ (Array.getElem?_eq_some_iff.1 H0.out.2.1).1).trans H0.out.2.1))); clear y0 y1 y2; (obtain ⟨y0, y1, y2⟩ := HS.out _ H1.out.2); clear hB)
        | (go_at_call 32; refine (lacksc_any IA In Ic is v.items w1 (HT.out _ H1.out.1).ri (HT.out _ H1.out.1).li (HT.out _ H1.out.1).its).mono ?_; rintro e w2 ⟨rfl, hB⟩; rw [HLK.out]; (have H2 := Aside0.mk (below_then H1.out.1 H1.out.1.size hB)); clear hB)
        | fail)
      go_ret2
      rw [HE.out.1, HE.out.2]
      exact ⟨none, 0, rfl, Ow.nil _ _, H2.out⟩
    | false =>
      have HLK := Aside0.mk hl
      have HOK := Aside0.mk (show encOk g v = true by unfold encOk; rw [hr, hl]; rfl)
      clear hr hl
      go_upto_region 4 with (first
        | (go_at_call 31; refine (cR w0 H0.out.1).mono ?_; rintro e w1 ⟨rfl, hB⟩; rw [HR.out]; (have H1 := Aside0.mk (And.intro (below_then H0B.out H0B.out.size hB) ((hB.block _ (Array.getElem?_eq_some_iff.1 H0.out.2.1).1).trans H0.out.2.1))); clear y0 y1 y2; (obtain ⟨y0, y1, y2⟩ := HS.out _ H1.out.2); clear hB)
        | (go_at_call 32; refine (lacksc_any IA In Ic is v.items w1 (HT.out _ H1.out.1).ri (HT.out _ H1.out.1).li (HT.out _ H1.out.1).its).mono ?_; rintro e w2 ⟨rfl, hB⟩; rw [HLK.out]; (have H2 := Aside0.mk (And.intro (below_then H1.out.1 H1.out.1.size hB) ((hB.block _ (Array.getElem?_eq_some_iff.1 H1.out.2).1).trans H1.out.2))); clear hB)
        | fail)
      clear y0 y1 y2 cR
      go_upto_region 5 with (first
        | (go_at_call 34; refine (cap_any g w2).mono ?_; rintro e w3 ⟨rfl, hB⟩; (have H3 := Aside0.mk (And.intro (below_then H2.out.1 H2.out.1.size hB) ((hB.block _ (Array.getElem?_eq_some_iff.1 H2.out.2).1).trans H2.out.2))); clear hB)
        | (go_at_call 33; refine (newWriter_any (cpI g) w3).mono ?_; rintro e w4 ⟨gw, g2, rfl, hg, hg2, hne, hgl, hc, hO, hB⟩; rw [nwN_cap] at hc hO; (have H4 := Aside0.mk (HWr.new (R := [(N, (.cells #[.bool lf, .slice IA In Ic, .slice KA Kn Kc] 28))]) H3.out.1 hg hg2 hne hc hO hB (fun p hp => by obtain rfl := List.mem_singleton.1 hp; exact H3.out.2))); clear hg hg2 hne hgl hc hO hB)
        | fail)
      have h5 := H4.out.lit (.cells #[.pointer (some ⟨gw, 0, none⟩), .int .i64 g] 81)
      obtain ⟨MW, hMW⟩ : ∃ X, w4.heap.size = X := ⟨_, rfl⟩
      obtain ⟨w5, hw5⟩ : ∃ X, w4.alloc (.cells #[.pointer (some ⟨gw, 0, none⟩), .int .i64 g] 81) = X := ⟨_, rfl⟩
      rw [hw5, hMW] at h5
      rw [hw5, hMW]
      have H5 := Aside0.mk h5
      clear h5 hw5 hMW
      obtain ⟨y0, y1, y2⟩ := HS.out _ (H5.out.rows (N, (.cells #[.bool lf, .slice IA In Ic, .slice KA Kn Kc] 28)) (List.mem_cons_of_mem _ List.mem_cons_self)).1
      go_upto_region 6 with fail
      have h6 := H5.out.lit (.cells #[.int .i64 66, .int .i64 g, .int .i64 (Kn : Int), .int .i64 0] 47)
      obtain ⟨MH, hMH⟩ : ∃ X, w5.heap.size = X := ⟨_, rfl⟩
      obtain ⟨w6, hw6⟩ : ∃ X, w5.alloc (.cells #[.int .i64 66, .int .i64 g, .int .i64 (Kn : Int), .int .i64 0] 47) = X := ⟨_, rfl⟩
      rw [hw6, hMH] at h6
      rw [hw6, hMH]
      have HWH := Aside0.mk (show N ≠ MH ∧ MW ≠ MH from ⟨by rw [← hMH]; exact Nat.ne_of_lt (Array.getElem?_eq_some_iff.1 (H5.out.rows (N, (.cells #[.bool lf, .slice IA In Ic, .slice KA Kn Kc] 28)) (List.mem_cons_of_mem _ List.mem_cons_self)).1).1, by rw [← hMH]; exact Nat.ne_of_lt (Array.getElem?_eq_some_iff.1 (H5.out.rows (MW, (.cells #[.pointer (some ⟨gw, 0, none⟩), .int .i64 g] 81)) List.mem_cons_self).1).1⟩)
      have HMHL := Aside0.mk (show w.heap.size ≤ MH by rw [← hMH]; exact H5.out.bel.size)
      have H6 := Aside0.mk h6
      clear h6 hw6 hMH y0 y1 y2
      obtain ⟨y0, y1, y2⟩ := HS.out _ (H6.out.rows (N, (.cells #[.bool lf, .slice IA In Ic, .slice KA Kn Kc] 28)) (List.mem_cons_of_mem _ (List.mem_cons_of_mem _ List.mem_cons_self))).1
      have HWC := Aside0.mk (show ∀ X : World, X.heap[MW]? = some (.cells #[.pointer (some ⟨gw, 0, none⟩), .int .i64 g] 81) → X.cell? ⟨MW, 0, none⟩ = some (.pointer (some ⟨gw, 0, none⟩)) ∧ X.cell? ⟨MW, 1, none⟩ = some (.int .i64 g) from fun X hX => ⟨by rw [cell_of_row _ _ _ _ _ _ hX]; rfl, by rw [cell_of_row _ _ _ _ _ _ hX]; rfl⟩)
      go_wp2_with fail
      clear y0 y1 y2
      go_loopg [38] Kn (fun gk v38 wr => ∃ (j : Nat), Aside (gk + j = Kn) ∧ v38 = .int .i64 (j : Int) ∧ Aside0 (HWr w gw g2 (cpI g).toNat [(MH, (.cells #[.int .i64 66, .int .i64 g, .int .i64 (Kn : Int), .int .i64 0] 47)), (MW, (.cells #[.pointer (some ⟨gw, 0, none⟩), .int .i64 g] 81)), (N, (.cells #[.bool lf, .slice IA In Ic, .slice KA Kn Kc] 28))] ((v.kids.take j).foldl (fun s q => kidS s g q) (encS0 g)) wr))
      case atStart => exact ⟨0, rfl, rfl, ⟨H6.out⟩⟩
      case round =>
        obtain ⟨j, hk, rfl, hI⟩ := hrel
        have hjm : j ≤ Kn := by have := hk.out; omega
        rcases Nat.lt_or_ge j Kn with hlt | hge
        · have d1 : decide ((j : Int) < (Kn : Int)) = true := decide_eq_true (by omega)
          have hjn : (j : Int) < (Kn : Int) := by omega
          obtain ⟨ad, p, e0, hp, c0, c1⟩ := (HT.out _ hI.out.bel).rk.kid (HT.out _ hI.out.bel).lk j hlt
          obtain ⟨q, hq, bk, er⟩ := HNd.out.kds.each j p hp
          simp only at e0
          subst e0
          obtain ⟨⟨pk, pkn, pkc⟩, pr⟩ := p
          obtain ⟨qk, qr⟩ := q
          unfold shv at c0
          unfold Bsh at bk
          simp only at c0 c1 bk er
          subst er
          have hrb := HBD.out.2.2 _ (List.mem_of_getElem? hq)
          simp only at hrb
          have HQ := Aside0.mk (And.intro hq (And.intro bk hrb))
          clear hp hq bk hrb
          go_upto_region 9 with fail
          have h7 := hI.out.lit (.cells #[.slice pk pkn pkc, .int .i64 pr] 74)
          obtain ⟨M, hM⟩ : ∃ X, wr.heap.size = X := ⟨_, rfl⟩
          obtain ⟨w7, hw7⟩ : ∃ X, wr.alloc (.cells #[.slice pk pkn pkc, .int .i64 pr] 74) = X := ⟨_, rfl⟩
          rw [hw7, hM] at h7
          rw [hw7, hM]
          have H7 := Aside0.mk h7
          clear h7 hw7 hM c0 c1
          have z0 : w7.cell? ⟨M, 0, none⟩ = some (.slice pk pkn pkc) := by rw [cell_of_row _ _ _ _ _ _ (H7.out.rows (M, (.cells #[.slice pk pkn pkc, .int .i64 pr] 74)) List.mem_cons_self).1]; rfl
          have z1 : w7.cell? ⟨M, 1, none⟩ = some (.int .i64 pr) := by rw [cell_of_row _ _ _ _ _ _ (H7.out.rows (M, (.cells #[.slice pk pkn pkc, .int .i64 pr] 74)) List.mem_cons_self).1]; rfl
          obtain ⟨u0, u1⟩ := HWC.out _ (H7.out.rows (MW, (.cells #[.pointer (some ⟨gw, 0, none⟩), .int .i64 g] 81)) (List.mem_cons_of_mem _ (List.mem_cons_of_mem _ List.mem_cons_self))).1
          go_wp2_with (go_at_call 35; refine (wkid_any w.heap.size gw g2 _ _ pk pkn pkc qk pr g w7 H7.out.wr (H7.out.bs HQ.out.2.1) (H7.out.ap HQ.out.2.1) (by have := HQ.out.2.2; omega)).mono ?_; rintro e w8 ⟨rfl, hW, hO⟩; (have H8 := Aside0.mk (H7.out.writer hO hW)); clear hW hO)
          go_roundg (Kn - (j + 1))
          case measure => have := hk.out; omega
          case rel =>
            refine ⟨j + 1, (by show Kn - (j + 1) + (j + 1) = Kn; omega), by go_num, ⟨?_⟩⟩
            rw [List.take_add_one, HQ.out.1, Option.toList_some, List.foldl_append]
            exact H8.out.perm (fun p hp => List.mem_cons_of_mem _ hp)
        · obtain rfl : Kn = j := by omega
          have d1 : decide ((Kn : Int) < (Kn : Int)) = false := by simp
          have h9 := hI.out
          rw [List.take_of_length_le (by rw [HLL.out.2]; exact Nat.le_refl _)] at h9
          have H9 := Aside0.mk (show HWr w gw g2 (cpI g).toNat [(MH, (.cells #[.int .i64 66, .int .i64 g, .int .i64 (Kn : Int), .int .i64 0] 47)), (MW, (.cells #[.pointer (some ⟨gw, 0, none⟩), .int .i64 g] 81)), (N, (.cells #[.bool lf, .slice IA In Ic, .slice KA Kn Kc] 28))] (encSK g v) wr from h9)
          clear h9 hI hk d1
          obtain ⟨y0, y1, y2⟩ := HS.out _ (H9.out.rows (N, (.cells #[.bool lf, .slice IA In Ic, .slice KA Kn Kc] 28)) (List.mem_cons_of_mem _ (List.mem_cons_of_mem _ List.mem_cons_self))).1
          cases lf with
          | false =>
            have H12 := Aside0.mk (show HWr w gw g2 (cpI g).toNat [(MH, (.cells #[.int .i64 66, .int .i64 g, .int .i64 (Kn : Int), .int .i64 0] 47)), (MW, (.cells #[.pointer (some ⟨gw, 0, none⟩), .int .i64 g] 81)), (N, (.cells #[.bool false, .slice IA In Ic, .slice KA Kn Kc] 28))] (encSK g v) wr from H9.out)
            have HKC := Aside0.mk (show encK v = 66 ∧ encC v = (Kn : Int) from ⟨by unfold encK; rw [← HLF.out]; rfl, by unfold encC; rw [← HLF.out]; simp [HLL.out]⟩)
            go_wp2_with fail
            clear y0 y1 y2
            go_loopg [56] In (fun gk v56 wr => ∃ (j : Nat), Aside (gk + j = In) ∧ v56 = .int .i64 (j : Int) ∧ Aside0 (HWr w gw g2 (cpI g).toNat [(MH, (.cells #[.int .i64 66, .int .i64 g, .int .i64 (Kn : Int), .int .i64 0] 47)), (MW, (.cells #[.pointer (some ⟨gw, 0, none⟩), .int .i64 g] 81)), (N, (.cells #[.bool false, .slice IA In Ic, .slice KA Kn Kc] 28))] ((v.items.take j).foldl (fun s q => itemS s g q) (encSK g v)) wr))
            case atStart => exact ⟨0, rfl, rfl, ⟨H12.out⟩⟩
            case round =>
              obtain ⟨j, hk, rfl, hI⟩ := hrel
              have hjm : j ≤ In := by have := hk.out; omega
              rcases Nat.lt_or_ge j In with hlt | hge
              · have d1 : decide ((j : Int) < (In : Int)) = true := decide_eq_true (by omega)
                have hjn : (j : Int) < (In : Int) := by omega
                obtain ⟨ad, p, e0, hp, c0, c1, c2, c3⟩ := (HT.out _ hI.out.bel).ri.item (HT.out _ hI.out.bel).li j hlt
                obtain ⟨q, hq, bk, bv, es, er⟩ := HNd.out.its.each j p hp
                simp only at e0
                subst e0
                obtain ⟨⟨pk, pkn, pkc⟩, ⟨pv, pvn, pvc⟩, ps, pr⟩ := p
                obtain ⟨qk, qv, qs, qr⟩ := q
                unfold shv at c0 c1
                unfold Bsh at bk bv
                simp only at c0 c1 c2 c3 bk bv es er
                subst es er
                have hrb := HBD.out.2.1 _ (List.mem_of_getElem? hq)
                simp only at hrb
                have HQ := Aside0.mk (And.intro hq (And.intro bk (And.intro bv hrb)))
                clear hp hq bk bv hrb
                go_upto_region 16 with fail
                have h7 := hI.out.lit (.cells #[.slice pk pkn pkc, .slice pv pvn pvc, .int .i64 ps, .int .i64 pr] 44)
                obtain ⟨M, hM⟩ : ∃ X, wr.heap.size = X := ⟨_, rfl⟩
                obtain ⟨w7, hw7⟩ : ∃ X, wr.alloc (.cells #[.slice pk pkn pkc, .slice pv pvn pvc, .int .i64 ps, .int .i64 pr] 44) = X := ⟨_, rfl⟩
                rw [hw7, hM] at h7
                rw [hw7, hM]
                have H7 := Aside0.mk h7
                clear h7 hw7 hM c0 c1 c2 c3
                obtain ⟨z0, z1, z2, z3⟩ := item_cells2 (H7.out.rows (M, (.cells #[.slice pk pkn pkc, .slice pv pvn pvc, .int .i64 ps, .int .i64 pr] 44)) List.mem_cons_self).1
                obtain ⟨u0, u1⟩ := HWC.out _ (H7.out.rows (MW, (.cells #[.pointer (some ⟨gw, 0, none⟩), .int .i64 g] 81)) (List.mem_cons_of_mem _ (List.mem_cons_of_mem _ List.mem_cons_self))).1
                go_wp2_with (go_at_call 36; refine (witem_any w.heap.size gw g2 _ _ pk pkn pkc qk pv pvn pvc qv ps pr g w7 H7.out.wr (H7.out.bs HQ.out.2.1) (H7.out.ap HQ.out.2.1) (H7.out.bs HQ.out.2.2.1) (H7.out.ap HQ.out.2.2.1) (by have := HQ.out.2.2.2; omega) (by have := HQ.out.2.2.2; omega)).mono ?_; rintro e w8 ⟨rfl, hW, hO⟩; (have H8 := Aside0.mk (H7.out.writer hO hW)); clear hW hO)
                go_roundg (In - (j + 1))
                case measure => have := hk.out; omega
                case rel =>
                  refine ⟨j + 1, (by show In - (j + 1) + (j + 1) = In; omega), by go_num, ⟨?_⟩⟩
                  rw [List.take_add_one, HQ.out.1, Option.toList_some, List.foldl_append]
                  exact H8.out.perm (fun p hp => List.mem_cons_of_mem _ hp)
              · obtain rfl : In = j := by omega
                have d1 : decide ((In : Int) < (In : Int)) = false := by simp
                have h9 := hI.out
                rw [List.take_of_length_le (by rw [HLL.out.1]; exact Nat.le_refl _)] at h9
                have H13 := Aside0.mk (show HWr w gw g2 (cpI g).toNat [(MH, (.cells #[.int .i64 66, .int .i64 g, .int .i64 (Kn : Int), .int .i64 0] 47)), (MW, (.cells #[.pointer (some ⟨gw, 0, none⟩), .int .i64 g] 81)), (N, (.cells #[.bool false, .slice IA In Ic, .slice KA Kn Kc] 28))] (encSI g v) wr from h9)
                clear h9 hI hk
                obtain ⟨u0, u1⟩ := HWC.out _ (H13.out.rows (MW, (.cells #[.pointer (some ⟨gw, 0, none⟩), .int .i64 g] 81)) (List.mem_cons_of_mem _ List.mem_cons_self)).1
                obtain ⟨ws, hws⟩ : ∃ x, encSI g v = x := ⟨_, rfl⟩
                rw [hws] at H13
                have HWS := Aside0.mk hws
                clear hws
                obtain ⟨sa, ssp, sxs⟩ := ws
                cases ssp with
                | true =>
                  have HE := Aside0.mk (show pgE g v = 73 ∧ pgB g v = [] by
                    have h1 : pgE g v = 73 := by unfold pgE; rw [if_pos HOK.out, HWS.out]; rfl
                    exact ⟨h1, by unfold pgB; rw [h1]; rfl⟩)
                  have q73 : (doneE true != 0) = true := rfl
                  go_wp2_with (go_at_call 37; refine (done_any gw _ _ _ _ true sxs wr H13.out.wr.cur H13.out.wr.own.bs).mono ?_; rintro e u4 ⟨A4, c4, rfl, hO, hB⟩; (have T4 := Aside0.mk (below_then H13.out.bel H13.out.bel.size hB)); clear hO hB)
                  go_ret2
                  rw [HE.out.1, HE.out.2]
                  exact ⟨none, 0, rfl, Ow.nil _ _, T4.out⟩
                | false =>
                  have HE := Aside0.mk (show pgE g v = wrE 66 g (Kn : Int) 0 sxs ∧ pgB g v = wrB 66 g (Kn : Int) 0 sxs by
                    have h1 : pgE g v = wrE 66 g (Kn : Int) 0 sxs := by unfold pgE; rw [if_pos HOK.out, HWS.out, HKC.out.1, HKC.out.2]; rfl
                    refine ⟨h1, ?_⟩
                    unfold pgB
                    rw [h1, HKC.out.1, HKC.out.2, HWS.out]
                    split
                    · rfl
                    · rename_i q
                      unfold wrB
                      rw [if_neg q])
                  have q0 : (doneE false != 0) = false := rfl
                  have q00 : doneB false sxs = sxs := rfl
                  go_upto_region 21 with (go_at_call 37; refine (done_any gw _ _ _ _ false sxs wr H13.out.wr.cur H13.out.wr.own.bs).mono ?_; rintro e u4 ⟨A4, c4, rfl, hO, hB⟩; rw [q00] at hO; rw [q00]; (have T4 := Aside0.mk (And.intro hO (H13.out.step hB))); clear hO hB)
                  obtain ⟨x0, x1, x2, x3⟩ := item_cells2 (T4.out.2.rows (MH, (.cells #[.int .i64 66, .int .i64 g, .int .i64 (Kn : Int), .int .i64 0] 47)) List.mem_cons_self).1
                  go_wp2_with (go_at_call 14; refine (wrap_any 66 g (Kn : Int) 0 A4 _ c4 sxs u4 T4.out.1.bs (by omega) (by omega)).mono ?_; rintro e u5 ⟨A5, c5, rfl, hO, hB⟩; (have T5 := Aside0.mk (And.intro hO (below_then T4.out.2.bel T4.out.2.bel.size hB))); clear hO hB)
                  go_ret2
                  rw [HE.out.1, HE.out.2]
                  exact ⟨A5, c5, rfl, T5.out.1.mono T4.out.2.bel.size, T5.out.2⟩
          | true =>
            go_upto_region 12 with fail
            have h10 := H9.out.step (below_drew (Below.refl _ _))
            obtain ⟨u0, hu0⟩ : ∃ X, wr.drew = X := ⟨_, rfl⟩
            rw [hu0] at h10
            have H10 := Aside0.mk h10
            have S10 := Aside0.mk (HS.out _ (h10.rows (N, (.cells #[.bool true, .slice IA In Ic, .slice KA Kn Kc] 28)) (List.mem_cons_of_mem _ (List.mem_cons_of_mem _ List.mem_cons_self))).1).2.1
            clear h10 y0 y1 y2
            have hrH := (H10.out.rows (MH, (.cells #[.int .i64 66, .int .i64 g, .int .i64 (Kn : Int), .int .i64 0] 47)) List.mem_cons_self).1
            obtain ⟨x0, x1, x2, x3⟩ := item_cells2 hrH
            have yH := fun j => Go.Joins.unfrozen_of_block hrH j
            refine wp_region_M (fun j => decide (j < 7)) (fun w' => w'.cell? ⟨N, 1, none⟩ = some (.slice IA In Ic)) (by kernel_rfl) ?_
            rw [hu0]
            clear hu0
            refine wpAnyM_take (i := 0) (v := ?_) (by simp only [List.getElem?_toArray, List.getElem?_cons_succ, List.getElem?_cons_zero]; rfl) (by kernel_rfl) (by kernel_rfl) (by kernel_rfl) (by kernel_rfl) (by exact fun _ _ _ h => h) (Or.inl ⟨by rfl, ?_⟩) S10.out ?_
            rotate_left
            · (intro w' hSw; (try dsimp only at hSw); go_simp; try with_reducible rfl)
            try simp only [Act.put, List.setIfInBounds_toArray, List.set_cons_zero, List.set_cons_succ]
            refine wpAnyM_take (i := 1) (v := ?_) (by simp only [List.getElem?_toArray, List.getElem?_cons_succ, List.getElem?_cons_zero]; rfl) (by kernel_rfl) (by kernel_rfl) (by kernel_rfl) (by kernel_rfl) (by exact fun _ _ _ h => h) (Or.inl ⟨by rfl, ?_⟩) S10.out ?_
            rotate_left
            · (intro w' hSw; (try dsimp only at hSw); go_simp; try with_reducible rfl)
            try simp only [Act.put, List.setIfInBounds_toArray, List.set_cons_zero, List.set_cons_succ]
            refine wpAnyM_take (i := 2) (v := ?_) (by simp only [List.getElem?_toArray, List.getElem?_cons_succ, List.getElem?_cons_zero]; rfl) (by kernel_rfl) (by kernel_rfl) (by kernel_rfl) (by kernel_rfl) (by exact fun _ _ _ h => h) (Or.inl ⟨by rfl, ?_⟩) S10.out ?_
            rotate_left
            · (intro w' hSw; (try dsimp only at hSw); go_simp; try with_reducible rfl)
            try simp only [Act.put, List.setIfInBounds_toArray, List.set_cons_zero, List.set_cons_succ]
            refine wpAnyM_take (i := 3) (v := ?_) (by simp only [List.getElem?_toArray, List.getElem?_cons_succ, List.getElem?_cons_zero]; rfl) (by kernel_rfl) (by kernel_rfl) (by kernel_rfl) (by kernel_rfl) (by exact fun _ _ _ h => h) (Or.inl ⟨by rfl, ?_⟩) S10.out ?_
            rotate_left
            · (intro w' hSw; (try dsimp only at hSw); go_simp; try with_reducible rfl)
            try simp only [Act.put, List.setIfInBounds_toArray, List.set_cons_zero, List.set_cons_succ]
            refine wpAnyM_one (i := 4) (by kernel_rfl) (by simp only [List.getElem?_toArray, List.getElem?_cons_succ, List.getElem?_cons_zero]; rfl) ?_
            go_wp2_with fail
            have hr1 := heap_setCell_same u0 MH 0 _ _ (.int .i64 76) hrH
            have ho1 := (OnlyB.refl MH u0).set 0 (.int .i64 76)
            have s1 : (u0.setCell ⟨MH, 0, none⟩ (.int .i64 76)).cell? ⟨N, 1, none⟩ = some (.slice IA In Ic) := ho1.cell (a := ⟨N, 1, none⟩) HWH.out.1 S10.out
            have H11 := Aside0.mk (H10.out.turn ho1 HMHL.out (fun p hp => by
              rcases List.mem_cons.1 hp with rfl | hp
              · exact HWH.out.2
              · obtain rfl := List.mem_singleton.1 hp
                exact HWH.out.1) hr1)
            refine ⟨S10.out, ?_⟩
            obtain ⟨u1, hu1⟩ : ∃ X, u0.setCell ⟨MH, 0, none⟩ (.int .i64 76) = X := ⟨_, rfl⟩
            rw [hu1] at H11 hr1 s1
            rw [hu1]
            clear hu1 ho1 x0 x1 x2 x3 yH hrH
            have S11 := Aside0.mk s1
            obtain ⟨x0, x1, x2, x3⟩ := item_cells2 hr1
            have yH := fun j => Go.Joins.unfrozen_of_block hr1 j
            clear s1
            try simp only [Act.put, List.setIfInBounds_toArray, List.set_cons_zero, List.set_cons_succ]
            refine wpAnyM_take (i := 5) (v := ?_) (by simp only [List.getElem?_toArray, List.getElem?_cons_succ, List.getElem?_cons_zero]; rfl) (by kernel_rfl) (by kernel_rfl) (by kernel_rfl) (by kernel_rfl) (by exact fun _ _ _ h => h) (Or.inl ⟨by rfl, ?_⟩) S11.out ?_
            rotate_left
            · (intro w' hSw; (try dsimp only at hSw); go_simp; try with_reducible rfl)
            try simp only [Act.put, List.setIfInBounds_toArray, List.set_cons_zero, List.set_cons_succ]
            refine wpAnyM_one (i := 6) (by kernel_rfl) (by simp only [List.getElem?_toArray, List.getElem?_cons_succ, List.getElem?_cons_zero]; rfl) ?_
            go_wp2_with fail
            have hr2 := heap_setCell_same u1 MH 2 _ _ (.int .i64 (In : Int)) hr1
            have ho2 := (OnlyB.refl MH u1).set 2 (.int .i64 (In : Int))
            have H12 := Aside0.mk (show HWr w gw g2 (cpI g).toNat [(MH, (.cells #[.int .i64 76, .int .i64 g, .int .i64 (In : Int), .int .i64 0] 47)), (MW, (.cells #[.pointer (some ⟨gw, 0, none⟩), .int .i64 g] 81)), (N, (.cells #[.bool true, .slice IA In Ic, .slice KA Kn Kc] 28))] (encSK g v) (u1.setCell ⟨MH, 2, none⟩ (.int .i64 (In : Int))) from H11.out.turn ho2 HMHL.out (fun p hp => by
              rcases List.mem_cons.1 hp with rfl | hp
              · exact HWH.out.2
              · obtain rfl := List.mem_singleton.1 hp
                exact HWH.out.1) hr2)
            refine ⟨S11.out, ?_⟩
            obtain ⟨u2, hu2⟩ : ∃ X, u1.setCell ⟨MH, 2, none⟩ (.int .i64 (In : Int)) = X := ⟨_, rfl⟩
            rw [hu2] at H12
            rw [hu2]
            clear hu2 ho2 hr2 hr1 x0 x1 x2 x3 yH
            try simp only [Act.put, List.setIfInBounds_toArray, List.set_cons_zero, List.set_cons_succ]
            refine wpAnyM_done (by kernel_rfl) ?_ _
            obtain ⟨y0, y1, y2⟩ := HS.out _ (H12.out.rows (N, (.cells #[.bool true, .slice IA In Ic, .slice KA Kn Kc] 28)) (List.mem_cons_of_mem _ (List.mem_cons_of_mem _ List.mem_cons_self))).1
            have HKC := Aside0.mk (show encK v = 76 ∧ encC v = (In : Int) from ⟨by unfold encK; rw [← HLF.out]; rfl, by unfold encC; rw [← HLF.out]; simp [HLL.out]⟩)
            go_wp2_with fail
            clear y0 y1 y2
            go_loopg [56] In (fun gk v56 wr => ∃ (j : Nat), Aside (gk + j = In) ∧ v56 = .int .i64 (j : Int) ∧ Aside0 (HWr w gw g2 (cpI g).toNat [(MH, (.cells #[.int .i64 76, .int .i64 g, .int .i64 (In : Int), .int .i64 0] 47)), (MW, (.cells #[.pointer (some ⟨gw, 0, none⟩), .int .i64 g] 81)), (N, (.cells #[.bool true, .slice IA In Ic, .slice KA Kn Kc] 28))] ((v.items.take j).foldl (fun s q => itemS s g q) (encSK g v)) wr))
            case atStart => exact ⟨0, rfl, rfl, ⟨H12.out⟩⟩
            case round =>
              obtain ⟨j, hk, rfl, hI⟩ := hrel
              have hjm : j ≤ In := by have := hk.out; omega
              rcases Nat.lt_or_ge j In with hlt | hge
              · have d1 : decide ((j : Int) < (In : Int)) = true := decide_eq_true (by omega)
                have hjn : (j : Int) < (In : Int) := by omega
                obtain ⟨ad, p, e0, hp, c0, c1, c2, c3⟩ := (HT.out _ hI.out.bel).ri.item (HT.out _ hI.out.bel).li j hlt
                obtain ⟨q, hq, bk, bv, es, er⟩ := HNd.out.its.each j p hp
                simp only at e0
                subst e0
                obtain ⟨⟨pk, pkn, pkc⟩, ⟨pv, pvn, pvc⟩, ps, pr⟩ := p
                obtain ⟨qk, qv, qs, qr⟩ := q
                unfold shv at c0 c1
                unfold Bsh at bk bv
                simp only at c0 c1 c2 c3 bk bv es er
                subst es er
                have hrb := HBD.out.2.1 _ (List.mem_of_getElem? hq)
                simp only at hrb
                have HQ := Aside0.mk (And.intro hq (And.intro bk (And.intro bv hrb)))
                clear hp hq bk bv hrb
                go_upto_region 16 with fail
                have h7 := hI.out.lit (.cells #[.slice pk pkn pkc, .slice pv pvn pvc, .int .i64 ps, .int .i64 pr] 44)
                obtain ⟨M, hM⟩ : ∃ X, wr.heap.size = X := ⟨_, rfl⟩
                obtain ⟨w7, hw7⟩ : ∃ X, wr.alloc (.cells #[.slice pk pkn pkc, .slice pv pvn pvc, .int .i64 ps, .int .i64 pr] 44) = X := ⟨_, rfl⟩
                rw [hw7, hM] at h7
                rw [hw7, hM]
                have H7 := Aside0.mk h7
                clear h7 hw7 hM c0 c1 c2 c3
                obtain ⟨z0, z1, z2, z3⟩ := item_cells2 (H7.out.rows (M, (.cells #[.slice pk pkn pkc, .slice pv pvn pvc, .int .i64 ps, .int .i64 pr] 44)) List.mem_cons_self).1
                obtain ⟨u0, u1⟩ := HWC.out _ (H7.out.rows (MW, (.cells #[.pointer (some ⟨gw, 0, none⟩), .int .i64 g] 81)) (List.mem_cons_of_mem _ (List.mem_cons_of_mem _ List.mem_cons_self))).1
                go_wp2_with (go_at_call 36; refine (witem_any w.heap.size gw g2 _ _ pk pkn pkc qk pv pvn pvc qv ps pr g w7 H7.out.wr (H7.out.bs HQ.out.2.1) (H7.out.ap HQ.out.2.1) (H7.out.bs HQ.out.2.2.1) (H7.out.ap HQ.out.2.2.1) (by have := HQ.out.2.2.2; omega) (by have := HQ.out.2.2.2; omega)).mono ?_; rintro e w8 ⟨rfl, hW, hO⟩; (have H8 := Aside0.mk (H7.out.writer hO hW)); clear hW hO)
                go_roundg (In - (j + 1))
                case measure => have := hk.out; omega
                case rel =>
                  refine ⟨j + 1, (by show In - (j + 1) + (j + 1) = In; omega), by go_num, ⟨?_⟩⟩
                  rw [List.take_add_one, HQ.out.1, Option.toList_some, List.foldl_append]
                  exact H8.out.perm (fun p hp => List.mem_cons_of_mem _ hp)
              · obtain rfl : In = j := by omega
                have d1 : decide ((In : Int) < (In : Int)) = false := by simp
                have h9 := hI.out
                rw [List.take_of_length_le (by rw [HLL.out.1]; exact Nat.le_refl _)] at h9
                have H13 := Aside0.mk (show HWr w gw g2 (cpI g).toNat [(MH, (.cells #[.int .i64 76, .int .i64 g, .int .i64 (In : Int), .int .i64 0] 47)), (MW, (.cells #[.pointer (some ⟨gw, 0, none⟩), .int .i64 g] 81)), (N, (.cells #[.bool true, .slice IA In Ic, .slice KA Kn Kc] 28))] (encSI g v) wr from h9)
                clear h9 hI hk
                obtain ⟨u0, u1⟩ := HWC.out _ (H13.out.rows (MW, (.cells #[.pointer (some ⟨gw, 0, none⟩), .int .i64 g] 81)) (List.mem_cons_of_mem _ List.mem_cons_self)).1
                obtain ⟨ws, hws⟩ : ∃ x, encSI g v = x := ⟨_, rfl⟩
                rw [hws] at H13
                have HWS := Aside0.mk hws
                clear hws
                obtain ⟨sa, ssp, sxs⟩ := ws
                cases ssp with
                | true =>
                  have HE := Aside0.mk (show pgE g v = 73 ∧ pgB g v = [] by
                    have h1 : pgE g v = 73 := by unfold pgE; rw [if_pos HOK.out, HWS.out]; rfl
                    exact ⟨h1, by unfold pgB; rw [h1]; rfl⟩)
                  have q73 : (doneE true != 0) = true := rfl
                  go_wp2_with (go_at_call 37; refine (done_any gw _ _ _ _ true sxs wr H13.out.wr.cur H13.out.wr.own.bs).mono ?_; rintro e u4 ⟨A4, c4, rfl, hO, hB⟩; (have T4 := Aside0.mk (below_then H13.out.bel H13.out.bel.size hB)); clear hO hB)
                  go_ret2
                  rw [HE.out.1, HE.out.2]
                  exact ⟨none, 0, rfl, Ow.nil _ _, T4.out⟩
                | false =>
                  have HE := Aside0.mk (show pgE g v = wrE 76 g (In : Int) 0 sxs ∧ pgB g v = wrB 76 g (In : Int) 0 sxs by
                    have h1 : pgE g v = wrE 76 g (In : Int) 0 sxs := by unfold pgE; rw [if_pos HOK.out, HWS.out, HKC.out.1, HKC.out.2]; rfl
                    refine ⟨h1, ?_⟩
                    unfold pgB
                    rw [h1, HKC.out.1, HKC.out.2, HWS.out]
                    split
                    · rfl
                    · rename_i q
                      unfold wrB
                      rw [if_neg q])
                  have q0 : (doneE false != 0) = false := rfl
                  have q00 : doneB false sxs = sxs := rfl
                  go_upto_region 21 with (go_at_call 37; refine (done_any gw _ _ _ _ false sxs wr H13.out.wr.cur H13.out.wr.own.bs).mono ?_; rintro e u4 ⟨A4, c4, rfl, hO, hB⟩; rw [q00] at hO; rw [q00]; (have T4 := Aside0.mk (And.intro hO (H13.out.step hB))); clear hO hB)
                  obtain ⟨x0, x1, x2, x3⟩ := item_cells2 (T4.out.2.rows (MH, (.cells #[.int .i64 76, .int .i64 g, .int .i64 (In : Int), .int .i64 0] 47)) List.mem_cons_self).1
                  go_wp2_with (go_at_call 14; refine (wrap_any 76 g (In : Int) 0 A4 _ c4 sxs u4 T4.out.1.bs (by omega) (by omega)).mono ?_; rintro e u5 ⟨A5, c5, rfl, hO, hB⟩; (have T5 := Aside0.mk (And.intro hO (below_then T4.out.2.bel T4.out.2.bel.size hB))); clear hO hB)
                  go_ret2
                  rw [HE.out.1, HE.out.2]
                  exact ⟨A5, c5, rfl, T5.out.1.mono T4.out.2.bel.size, T5.out.2⟩
end Go.Proofs.YtbjfklgmbeaaoaaGreat
