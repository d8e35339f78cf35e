/- The document's Newest. -/
import Derived.Test.YthhalmjapiempaaS3
set_option linter.unusedVariables false
set_option linter.unusedSimpArgs false
namespace Go.Proofs.Ythhalmjapiempaa
open Go.RowKit

theorem cutA_block {A : Option Addr} {c i : Nat} {b : Addr} (h : cutA A c i = some b) : ∃ b0, A = some b0 ∧ b0.block = b.block := by
  unfold cutA at h
  split at h
  · exact ⟨b, h, rfl⟩
  · obtain ⟨b0, e1, e2⟩ := Option.map_eq_some_iff.1 h
    exact ⟨b0, e1, by rw [← e2, add_block]⟩
theorem pgB_take (x : List UInt8) : pgB x 0 = x.take 256 := by unfold pgB; rw [Nat.mul_zero, List.drop_zero]
set_option maxHeartbeats 16000000 in
set_option maxRecDepth 100000 in
theorem rnewest_any (A : Option Addr) (n c : Nat) (B : Option Addr) (m e : Nat) (hs : List (Int × Option Addr × Nat × Nat)) (d : DV) (w : World) (h : RM w A n c B m e hs d) (ok : d.ok (nD d)) (hn : n ≤ 100000000) :
    Calls Try.prog 36 #[.agg (rv d A n c B m e)] w (NewQ d w) := by
  have hln : d.l.length = n := h.bl.len
  have hnd : n = nD d * 64 := by rw [← hln]; exact ok.len
  obtain ⟨bd, hbd⟩ : ∃ b : Obj, Obj.cells #[.int .i64 d.limit, .slice A n c, .slice B m e, .int .i64 d.ops, .int .i64 d.fuse, .bool d.down] 47 = b := ⟨_, rfl⟩
  have hr1 : ((w.alloc bd).alloc (.cells #[.int .i64 0, .int .i64 0, .int .i64 0, .int .i64 0, .int .i64 0, .int .i64 0, .int .i64 0, .slice none 0 0] 24)).heap[w.heap.size]? = some bd := ((Below.refl _ (w.alloc bd)).alloc (Nat.le_refl _) _).block _ (by simp) |>.trans (heap_alloc_new w bd)
  have hr2 : ((w.alloc bd).alloc (.cells #[.int .i64 0, .int .i64 0, .int .i64 0, .int .i64 0, .int .i64 0, .int .i64 0, .int .i64 0, .slice none 0 0] 24)).heap[w.heap.size + 1]? = some (.cells #[.int .i64 0, .int .i64 0, .int .i64 0, .int .i64 0, .int .i64 0, .int .i64 0, .int .i64 0, .slice none 0 0] 24) := by
    have := heap_alloc_new (w.alloc bd) (.cells #[.int .i64 0, .int .i64 0, .int .i64 0, .int .i64 0, .int .i64 0, .int .i64 0, .int .i64 0, .slice none 0 0] 24)
    rwa [show (w.alloc bd).heap.size = w.heap.size + 1 by simp] at this
  have hb0 : Below w.heap.size w ((w.alloc bd).alloc (.cells #[.int .i64 0, .int .i64 0, .int .i64 0, .int .i64 0, .int .i64 0, .int .i64 0, .int .i64 0, .slice none 0 0] 24)) := ((Below.refl _ w).alloc (Nat.le_refl _) bd).alloc (by simp) _
  have H0 := Aside0.mk (And.intro (h.below hb0) (And.intro hr1 (And.intro hr2 hb0)))
  have HOK := Aside0.mk ok
  have HND := Aside0.mk hnd
  replace hbd := Aside0.mk hbd
  clear h hr1 hr2 hb0 ok hln hnd
  show Calls Try.prog 36 #[.agg #[.int .i64 d.limit, .slice A n c, .slice B m e, .int .i64 d.ops, .int .i64 d.fuse, .bool d.down]] w _
  go_enter Try.func36, Try.ntmps36
  go_upto_region 1 with fail
  rw [hbd.out]
  obtain ⟨w0, hw0⟩ : ∃ X, (w.alloc bd).alloc (.cells #[.int .i64 0, .int .i64 0, .int .i64 0, .int .i64 0, .int .i64 0, .int .i64 0, .int .i64 0, .slice none 0 0] 24) = X := ⟨_, rfl⟩
  obtain ⟨N1, hN1⟩ : ∃ X, w.heap.size + 1 = X := ⟨_, rfl⟩
  obtain ⟨N, hN⟩ : ∃ X, w.heap.size = X := ⟨_, rfl⟩
  rw [hw0, hN1, hN] at H0
  rw [hw0, hN1, hN]
  have hN' := Aside0.mk hN
  have hNN := Aside0.mk (show N < N1 by omega)
  clear hw0 hN1 hN
  have hYD := Aside0.mk (show ∀ X : World, X.heap[N]? = some bd → X.cell? ⟨N, 0, none⟩ = some (.int .i64 d.limit) ∧ X.cell? ⟨N, 1, none⟩ = some (.slice A n c) ∧ X.cell? ⟨N, 2, none⟩ = some (.slice B m e) ∧ X.cell? ⟨N, 3, none⟩ = some (.int .i64 d.ops) ∧ X.cell? ⟨N, 4, none⟩ = some (.int .i64 d.fuse) ∧ X.cell? ⟨N, 5, none⟩ = some (.bool d.down) from fun X hX => by rw [← hbd.out] at hX; exact row6_cells hX)
  clear hbd
  obtain ⟨x0, x1, x2, x3, x4, x5⟩ := hYD.out _ H0.out.2.1
  obtain ⟨z0, z1, z2, z3, z4, z5, z6, z7⟩ := row8_cells H0.out.2.2.1
  have yf := fun j => Go.Joins.unfrozen_of_block H0.out.2.2.1 j
  cases hdn : d.down with
  | true =>
    rw [hdn] at x5
    have HDN := Aside0.mk hdn
    have HD := Aside0.mk (rload8 (row8_set (.int .i64 0) (.int .i64 0) (.int .i64 0) (.int .i64 0) (.int .i64 0) (.int .i64 0) (.int .i64 0) (.slice none 0 0) H0.out.2.2.1))
    clear hdn
    go_wp2_with fail
    have hD := HD.out
    refine bodyPost_ret (v := .tuple #[.agg #[.int .i64 0, .int .i64 0, .int .i64 0, .int .i64 0, .int .i64 0, .int .i64 0, .int .i64 0, .slice none 0 0], .int .i64 (-1), .int .i64 10]) (by simp [results, Try.results36, asAddr, hD]) rfl ?_
    have e1 : newAt d = -1 := if_pos HDN.out
    have e2 : newE d = 10 := if_pos HDN.out
    have e3 : newM d = mv0 := if_pos HDN.out
    refine ⟨none, 0, ?_, ?_, ?_⟩
    · rw [e1, e2, e3]; rfl
    · rw [e3]; exact Bs.nil _ _ _ (by omega)
    · rw [hN'.out]; exact below_set8 _ _ _ _ _ _ _ _ H0.out.2.2.2 (Nat.le_of_lt hNN.out)
  | false =>
    have HDN := Aside0.mk hdn
    rw [hdn] at x5
    have hrv : rv d A n c B m e = #[.int .i64 d.limit, .slice A n c, .slice B m e, .int .i64 d.ops, .int .i64 d.fuse, .bool false] := by unfold rv; rw [HDN.out]
    have cIm := rimage_any A n c B m e hs d w0 H0.out.1 HOK.out hn
    rw [hrv] at cIm
    clear hdn hrv
    go_upto_region 6 with (go_at_call 54; refine cIm.mono ?_; rintro e1 w1 ⟨A2, c2, rfl, hO, hB⟩; (have H1 := Aside0.mk (And.intro hO.bs (And.intro ((hB.block _ (Array.getElem?_eq_some_iff.1 H0.out.2.2.1).1).trans H0.out.2.2.1) (And.intro (below_then H0.out.2.2.2 (by rw [← hN'.out]; exact H0.out.2.2.2.size) hB) (fun (h0 : 0 < n) b (e2 : A2 = some b) => show N1 < b.block by (obtain ⟨q, e3, hq, _⟩ := hO.head h0); rw [e3] at e2; injection e2 with e2; have := (Array.getElem?_eq_some_iff.1 H0.out.2.2.1).1; rw [← e2]; exact Nat.lt_of_lt_of_le this hq))))); clear hO hB)
    clear cIm x0 x1 x2 x3 x4 x5 z0 z1 z2 z3 z4 z5 z6 z7 yf
    have hnd := HND.out
    have hcap := H1.out.1.le
    have hccap := H1.out.1.cap
    have hil := H1.out.1.len
    obtain ⟨z0, z1, z2, z3, z4, z5, z6, z7⟩ := row8_cells H1.out.2.1
    have yf := fun j => Go.Joins.unfrozen_of_block H1.out.2.1 j
    have hA2 : 0 < n → ∀ b, A2 = some b → N1 < b.block := H1.out.2.2.2
    by_cases q1 : n < 256
    · have g1 : decide ((256 : Int) ≤ (n : Int)) = false := decide_eq_false (by omega)
      have g2 : decide ((512 : Int) ≤ (n : Int)) = false := decide_eq_false (by omega)
      have hsx : someB d 0 1 = [] := some_no 0 (by omega)
      have hsy : someB d 1 1 = [] := some_no 1 (by omega)
      have hbx : Bs w1 none 0 0 [] := Bs.nil _ _ _ (by omega)
      have hby : Bs w1 none 0 0 [] := Bs.nil _ _ _ (by omega)
      have hX := Aside0.mk (show ∀ b : Addr, (none : Option Addr) = some b → N1 < b.block from fun b e => by cases e)
      have hY := Aside0.mk (show ∀ b : Addr, (none : Option Addr) = some b → N1 < b.block from fun b e => by cases e)
      clear q1 hA2
      have HX := Aside0.mk (And.intro hbx hby)
      have NO := Aside0.mk (new_of HDN.out hsx hsy)
      clear hbx hby hsx hsy hnd hcap hccap hil
      rcases ch_cases (refE []) (rfN [] 0) (refE []) (rfN [] 0) with hc | hc | hc
      · have HC := Aside0.mk hc
        clear hc
        go_wp2_with (go_at_call 60; refine (rch_none none 0 0 [] none 0 0 [] w1 HX.out.1 HX.out.2 (hE := rfl) HC.out).mono ?_; rintro e2 w2 ⟨hB, rfl⟩; (have H2 := Aside0.mk (And.intro ((hB.block _ (Array.getElem?_eq_some_iff.1 H1.out.2.1).1).trans H1.out.2.1) (below_then H1.out.2.2.1 (by rw [← hN'.out]; exact H1.out.2.2.1.size) hB))); clear hB z0 z1 z2 z3 z4 z5 z6 z7 yf; (obtain ⟨z0, z1, z2, z3, z4, z5, z6, z7⟩ := row8_cells H2.out.1); (have yf := fun j => Go.Joins.unfrozen_of_block H2.out.1 j))
        have hD := rload8 (row8_set (.int .i64 0) (.int .i64 0) (.int .i64 0) (.int .i64 0) (.int .i64 0) (.int .i64 0) (.int .i64 0) (.slice none 0 0) H2.out.1)
        refine bodyPost_ret (v := .tuple #[.agg #[.int .i64 0, .int .i64 0, .int .i64 0, .int .i64 0, .int .i64 0, .int .i64 0, .int .i64 0, .slice none 0 0], .int .i64 (-1), .int .i64 (chE (refE []) (refE []))]) (by simp [results, Try.results36, asAddr, hD]) rfl ?_
        obtain ⟨e1, e2, e3⟩ := NO.out.1 HC.out
        refine ⟨none, 0, ?_, ?_, ?_⟩
        · rw [e1, e2, e3]; rfl
        · rw [e3]; exact Bs.nil _ _ _ (by omega)
        · rw [hN'.out]; exact below_set8 _ _ _ _ _ _ _ _ H2.out.2 (Nat.le_of_lt hNN.out)
      · have HC := Aside0.mk hc
        clear hc
        go_wp2_with (go_at_call 60; refine (rch_left none 0 0 [] none 0 0 [] w1 HX.out.1 HX.out.2 HC.out).mono ?_; rintro e2 w2 ⟨hB, h0, rfl⟩; (have H2 := Aside0.mk (And.intro ((hB.block _ (Array.getElem?_eq_some_iff.1 H1.out.2.1).1).trans H1.out.2.1) (And.intro (below_then H1.out.2.2.1 (by rw [← hN'.out]; exact H1.out.2.2.1.size) hB) (And.intro h0 (rfCu_bs h0 (HX.out.1.below hB)))))); clear hB h0 z0 z1 z2 z3 z4 z5 z6 z7 yf; (obtain ⟨z0, z1, z2, z3, z4, z5, z6, z7⟩ := row8_cells H2.out.1); (have yf := fun j => Go.Joins.unfrozen_of_block H2.out.1 j))
        have hD := rload8 (row8_set (.int .i64 (b8 [] 4)) (.int .i64 (b8 [] 5)) (.int .i64 (b8 [] 6)) (.int .i64 (rfN [] 0)) (.int .i64 (rfN [] 1)) (.int .i64 (rfN [] 2)) (.int .i64 (rfN [] 3)) (.slice (rfA none 0 []) (rfCu []).length (rfC 0 [])) H2.out.1)
        refine bodyPost_ret (v := .tuple #[.agg #[(.int .i64 (b8 [] 4)), (.int .i64 (b8 [] 5)), (.int .i64 (b8 [] 6)), (.int .i64 (rfN [] 0)), (.int .i64 (rfN [] 1)), (.int .i64 (rfN [] 2)), (.int .i64 (rfN [] 3)), (.slice (rfA none 0 []) (rfCu []).length (rfC 0 []))], .int .i64 0, .int .i64 0]) (by simp [results, Try.results36, asAddr, hD]) rfl ?_
        obtain ⟨e1, e2, e3⟩ := NO.out.2.1 HC.out H2.out.2.2.1
        refine ⟨rfA none 0 [], rfC 0 [], ?_, ?_, ?_⟩
        · rw [e1, e2, e3]; rfl
        · rw [e3]
          refine Bs.only6 (W := w2) (g := N1) H2.out.2.2.2 (only_set8 _ _ _ _ _ _ _ _) (fun h0 b e4 => ?_)
          obtain ⟨b0, e5, e6⟩ := cutA_block (show cutA _ _ _ = some b from e4)
          have := hX.out b0 e5
          omega
        · rw [hN'.out]; exact below_set8 _ _ _ _ _ _ _ _ H2.out.2.1 (Nat.le_of_lt hNN.out)
      · have HC := Aside0.mk hc
        clear hc
        go_wp2_with (go_at_call 60; refine (rch_right none 0 0 [] none 0 0 [] w1 HX.out.1 HX.out.2 HC.out).mono ?_; rintro e2 w2 ⟨hB, h0, rfl⟩; (have H2 := Aside0.mk (And.intro ((hB.block _ (Array.getElem?_eq_some_iff.1 H1.out.2.1).1).trans H1.out.2.1) (And.intro (below_then H1.out.2.2.1 (by rw [← hN'.out]; exact H1.out.2.2.1.size) hB) (And.intro h0 (rfCu_bs h0 (HX.out.2.below hB)))))); clear hB h0 z0 z1 z2 z3 z4 z5 z6 z7 yf; (obtain ⟨z0, z1, z2, z3, z4, z5, z6, z7⟩ := row8_cells H2.out.1); (have yf := fun j => Go.Joins.unfrozen_of_block H2.out.1 j))
        have hD := rload8 (row8_set (.int .i64 (b8 [] 4)) (.int .i64 (b8 [] 5)) (.int .i64 (b8 [] 6)) (.int .i64 (rfN [] 0)) (.int .i64 (rfN [] 1)) (.int .i64 (rfN [] 2)) (.int .i64 (rfN [] 3)) (.slice (rfA none 0 []) (rfCu []).length (rfC 0 [])) H2.out.1)
        refine bodyPost_ret (v := .tuple #[.agg #[(.int .i64 (b8 [] 4)), (.int .i64 (b8 [] 5)), (.int .i64 (b8 [] 6)), (.int .i64 (rfN [] 0)), (.int .i64 (rfN [] 1)), (.int .i64 (rfN [] 2)), (.int .i64 (rfN [] 3)), (.slice (rfA none 0 []) (rfCu []).length (rfC 0 []))], .int .i64 1, .int .i64 0]) (by simp [results, Try.results36, asAddr, hD]) rfl ?_
        obtain ⟨e1, e2, e3⟩ := NO.out.2.2 HC.out H2.out.2.2.1
        refine ⟨rfA none 0 [], rfC 0 [], ?_, ?_, ?_⟩
        · rw [e1, e2, e3]; rfl
        · rw [e3]
          refine Bs.only6 (W := w2) (g := N1) H2.out.2.2.2 (only_set8 _ _ _ _ _ _ _ _) (fun h0 b e4 => ?_)
          obtain ⟨b0, e5, e6⟩ := cutA_block (show cutA _ _ _ = some b from e4)
          have := hY.out b0 e5
          omega
        · rw [hN'.out]; exact below_set8 _ _ _ _ _ _ _ _ H2.out.2.1 (Nat.le_of_lt hNN.out)
    have g1 : decide ((256 : Int) ≤ (n : Int)) = true := decide_eq_true (by omega)
    have t1 : ∀ W : World, (Instr.slice 22 (.slice A2 n c2) none (some (.int .i64 256)) none).run Try.prog W = .ok (.slice A2 256 c2) W := fun W => sl8_h W A2 n c2 .i64 256 (by omega) (by omega)
    obtain ⟨xs, hxs⟩ : ∃ x, (imD d).take 256 = x := ⟨_, rfl⟩
    have hsx : someB d 0 1 = xs := by rw [← hxs, ← pgB_take]; exact (some_page HOK.out HDN.out 0 (by omega) (by omega)).1
    have hbx := H1.out.1.take 256 (by omega)
    rw [hxs] at hbx
    have hX := Aside0.mk (hA2 (by omega))
    by_cases q2 : n < 512
    · have g2 : decide ((512 : Int) ≤ (n : Int)) = false := decide_eq_false (by omega)
      have hsy : someB d 1 1 = [] := some_no 1 (by omega)
      have hby : Bs w1 none 0 0 [] := Bs.nil _ _ _ (by omega)
      have hY := Aside0.mk (show ∀ b : Addr, (none : Option Addr) = some b → N1 < b.block from fun b e => by cases e)
      clear q1 q2 hA2 hxs
      have HX := Aside0.mk (And.intro hbx hby)
      have NO := Aside0.mk (new_of HDN.out hsx hsy)
      clear hbx hby hsx hsy hnd hcap hccap hil
      rcases ch_cases (refE xs) (rfN xs 0) (refE []) (rfN [] 0) with hc | hc | hc
      · have HC := Aside0.mk hc
        clear hc
        go_wp2_with (go_at_call 60; refine (rch_none A2 256 c2 xs none 0 0 [] w1 HX.out.1 HX.out.2 (hE := rfl) HC.out).mono ?_; rintro e2 w2 ⟨hB, rfl⟩; (have H2 := Aside0.mk (And.intro ((hB.block _ (Array.getElem?_eq_some_iff.1 H1.out.2.1).1).trans H1.out.2.1) (below_then H1.out.2.2.1 (by rw [← hN'.out]; exact H1.out.2.2.1.size) hB))); clear hB z0 z1 z2 z3 z4 z5 z6 z7 yf; (obtain ⟨z0, z1, z2, z3, z4, z5, z6, z7⟩ := row8_cells H2.out.1); (have yf := fun j => Go.Joins.unfrozen_of_block H2.out.1 j))
        have hD := rload8 (row8_set (.int .i64 0) (.int .i64 0) (.int .i64 0) (.int .i64 0) (.int .i64 0) (.int .i64 0) (.int .i64 0) (.slice none 0 0) H2.out.1)
        refine bodyPost_ret (v := .tuple #[.agg #[.int .i64 0, .int .i64 0, .int .i64 0, .int .i64 0, .int .i64 0, .int .i64 0, .int .i64 0, .slice none 0 0], .int .i64 (-1), .int .i64 (chE (refE xs) (refE []))]) (by simp [results, Try.results36, asAddr, hD]) rfl ?_
        obtain ⟨e1, e2, e3⟩ := NO.out.1 HC.out
        refine ⟨none, 0, ?_, ?_, ?_⟩
        · rw [e1, e2, e3]; rfl
        · rw [e3]; exact Bs.nil _ _ _ (by omega)
        · rw [hN'.out]; exact below_set8 _ _ _ _ _ _ _ _ H2.out.2 (Nat.le_of_lt hNN.out)
      · have HC := Aside0.mk hc
        clear hc
        go_wp2_with (go_at_call 60; refine (rch_left A2 256 c2 xs none 0 0 [] w1 HX.out.1 HX.out.2 HC.out).mono ?_; rintro e2 w2 ⟨hB, h0, rfl⟩; (have H2 := Aside0.mk (And.intro ((hB.block _ (Array.getElem?_eq_some_iff.1 H1.out.2.1).1).trans H1.out.2.1) (And.intro (below_then H1.out.2.2.1 (by rw [← hN'.out]; exact H1.out.2.2.1.size) hB) (And.intro h0 (rfCu_bs h0 (HX.out.1.below hB)))))); clear hB h0 z0 z1 z2 z3 z4 z5 z6 z7 yf; (obtain ⟨z0, z1, z2, z3, z4, z5, z6, z7⟩ := row8_cells H2.out.1); (have yf := fun j => Go.Joins.unfrozen_of_block H2.out.1 j))
        have hD := rload8 (row8_set (.int .i64 (b8 xs 4)) (.int .i64 (b8 xs 5)) (.int .i64 (b8 xs 6)) (.int .i64 (rfN xs 0)) (.int .i64 (rfN xs 1)) (.int .i64 (rfN xs 2)) (.int .i64 (rfN xs 3)) (.slice (rfA A2 c2 xs) (rfCu xs).length (rfC c2 xs)) H2.out.1)
        refine bodyPost_ret (v := .tuple #[.agg #[(.int .i64 (b8 xs 4)), (.int .i64 (b8 xs 5)), (.int .i64 (b8 xs 6)), (.int .i64 (rfN xs 0)), (.int .i64 (rfN xs 1)), (.int .i64 (rfN xs 2)), (.int .i64 (rfN xs 3)), (.slice (rfA A2 c2 xs) (rfCu xs).length (rfC c2 xs))], .int .i64 0, .int .i64 0]) (by simp [results, Try.results36, asAddr, hD]) rfl ?_
        obtain ⟨e1, e2, e3⟩ := NO.out.2.1 HC.out H2.out.2.2.1
        refine ⟨rfA A2 c2 xs, rfC c2 xs, ?_, ?_, ?_⟩
        · rw [e1, e2, e3]; rfl
        · rw [e3]
          refine Bs.only6 (W := w2) (g := N1) H2.out.2.2.2 (only_set8 _ _ _ _ _ _ _ _) (fun h0 b e4 => ?_)
          obtain ⟨b0, e5, e6⟩ := cutA_block (show cutA _ _ _ = some b from e4)
          have := hX.out b0 e5
          omega
        · rw [hN'.out]; exact below_set8 _ _ _ _ _ _ _ _ H2.out.2.1 (Nat.le_of_lt hNN.out)
      · have HC := Aside0.mk hc
        clear hc
        go_wp2_with (go_at_call 60; refine (rch_right A2 256 c2 xs none 0 0 [] w1 HX.out.1 HX.out.2 HC.out).mono ?_; rintro e2 w2 ⟨hB, h0, rfl⟩; (have H2 := Aside0.mk (And.intro ((hB.block _ (Array.getElem?_eq_some_iff.1 H1.out.2.1).1).trans H1.out.2.1) (And.intro (below_then H1.out.2.2.1 (by rw [← hN'.out]; exact H1.out.2.2.1.size) hB) (And.intro h0 (rfCu_bs h0 (HX.out.2.below hB)))))); clear hB h0 z0 z1 z2 z3 z4 z5 z6 z7 yf; (obtain ⟨z0, z1, z2, z3, z4, z5, z6, z7⟩ := row8_cells H2.out.1); (have yf := fun j => Go.Joins.unfrozen_of_block H2.out.1 j))
        have hD := rload8 (row8_set (.int .i64 (b8 [] 4)) (.int .i64 (b8 [] 5)) (.int .i64 (b8 [] 6)) (.int .i64 (rfN [] 0)) (.int .i64 (rfN [] 1)) (.int .i64 (rfN [] 2)) (.int .i64 (rfN [] 3)) (.slice (rfA none 0 []) (rfCu []).length (rfC 0 [])) H2.out.1)
        refine bodyPost_ret (v := .tuple #[.agg #[(.int .i64 (b8 [] 4)), (.int .i64 (b8 [] 5)), (.int .i64 (b8 [] 6)), (.int .i64 (rfN [] 0)), (.int .i64 (rfN [] 1)), (.int .i64 (rfN [] 2)), (.int .i64 (rfN [] 3)), (.slice (rfA none 0 []) (rfCu []).length (rfC 0 []))], .int .i64 1, .int .i64 0]) (by simp [results, Try.results36, asAddr, hD]) rfl ?_
        obtain ⟨e1, e2, e3⟩ := NO.out.2.2 HC.out H2.out.2.2.1
        refine ⟨rfA none 0 [], rfC 0 [], ?_, ?_, ?_⟩
        · rw [e1, e2, e3]; rfl
        · rw [e3]
          refine Bs.only6 (W := w2) (g := N1) H2.out.2.2.2 (only_set8 _ _ _ _ _ _ _ _) (fun h0 b e4 => ?_)
          obtain ⟨b0, e5, e6⟩ := cutA_block (show cutA _ _ _ = some b from e4)
          have := hY.out b0 e5
          omega
        · rw [hN'.out]; exact below_set8 _ _ _ _ _ _ _ _ H2.out.2.1 (Nat.le_of_lt hNN.out)
    have g2 : decide ((512 : Int) ≤ (n : Int)) = true := decide_eq_true (by omega)
    have t2 : ∀ W : World, (Instr.slice 22 (.slice A2 n c2) (some (.int .i64 256)) (some (.int .i64 512)) none).run Try.prog W = .ok (.slice (cutA A2 c2 256) 256 (c2 - 256)) W := fun W => sl8_lh W A2 n c2 .i64 .i64 256 512 (by omega) (by omega) (by omega)
    obtain ⟨ys, hys⟩ : ∃ x, ((imD d).drop 256).take 256 = x := ⟨_, rfl⟩
    have hsy : someB d 1 1 = ys := by rw [← hys]; exact (some_page HOK.out HDN.out 1 (by omega) (by omega)).1
    have hby := (H1.out.1.drop 256 (by omega)).take 256 (by omega)
    rw [hys] at hby
    have hY := Aside0.mk (show ∀ b : Addr, cutA A2 c2 256 = some b → N1 < b.block from fun b e => by (obtain ⟨b0, e1, e2⟩ := cutA_block e); have := hA2 (by omega) b0 e1; omega)
    clear q1 q2 hA2 hxs hys
    have HX := Aside0.mk (And.intro hbx hby)
    have NO := Aside0.mk (new_of HDN.out hsx hsy)
    clear hbx hby hsx hsy hnd hcap hccap hil
    rcases ch_cases (refE xs) (rfN xs 0) (refE ys) (rfN ys 0) with hc | hc | hc
    · have HC := Aside0.mk hc
      clear hc
      go_wp2_with (go_at_call 60; refine (rch_none A2 256 c2 xs (cutA A2 c2 256) 256 (c2 - 256) ys w1 HX.out.1 HX.out.2 (hE := rfl) HC.out).mono ?_; rintro e2 w2 ⟨hB, rfl⟩; (have H2 := Aside0.mk (And.intro ((hB.block _ (Array.getElem?_eq_some_iff.1 H1.out.2.1).1).trans H1.out.2.1) (below_then H1.out.2.2.1 (by rw [← hN'.out]; exact H1.out.2.2.1.size) hB))); clear hB z0 z1 z2 z3 z4 z5 z6 z7 yf; (obtain ⟨z0, z1, z2, z3, z4, z5, z6, z7⟩ := row8_cells H2.out.1); (have yf := fun j => Go.Joins.unfrozen_of_block H2.out.1 j))
      have hD := rload8 (row8_set (.int .i64 0) (.int .i64 0) (.int .i64 0) (.int .i64 0) (.int .i64 0) (.int .i64 0) (.int .i64 0) (.slice none 0 0) H2.out.1)
      refine bodyPost_ret (v := .tuple #[.agg #[.int .i64 0, .int .i64 0, .int .i64 0, .int .i64 0, .int .i64 0, .int .i64 0, .int .i64 0, .slice none 0 0], .int .i64 (-1), .int .i64 (chE (refE xs) (refE ys))]) (by simp [results, Try.results36, asAddr, hD]) rfl ?_
      obtain ⟨e1, e2, e3⟩ := NO.out.1 HC.out
      refine ⟨none, 0, ?_, ?_, ?_⟩
      · rw [e1, e2, e3]; rfl
      · rw [e3]; exact Bs.nil _ _ _ (by omega)
      · rw [hN'.out]; exact below_set8 _ _ _ _ _ _ _ _ H2.out.2 (Nat.le_of_lt hNN.out)
    · have HC := Aside0.mk hc
      clear hc
      go_wp2_with (go_at_call 60; refine (rch_left A2 256 c2 xs (cutA A2 c2 256) 256 (c2 - 256) ys w1 HX.out.1 HX.out.2 HC.out).mono ?_; rintro e2 w2 ⟨hB, h0, rfl⟩; (have H2 := Aside0.mk (And.intro ((hB.block _ (Array.getElem?_eq_some_iff.1 H1.out.2.1).1).trans H1.out.2.1) (And.intro (below_then H1.out.2.2.1 (by rw [← hN'.out]; exact H1.out.2.2.1.size) hB) (And.intro h0 (rfCu_bs h0 (HX.out.1.below hB)))))); clear hB h0 z0 z1 z2 z3 z4 z5 z6 z7 yf; (obtain ⟨z0, z1, z2, z3, z4, z5, z6, z7⟩ := row8_cells H2.out.1); (have yf := fun j => Go.Joins.unfrozen_of_block H2.out.1 j))
      have hD := rload8 (row8_set (.int .i64 (b8 xs 4)) (.int .i64 (b8 xs 5)) (.int .i64 (b8 xs 6)) (.int .i64 (rfN xs 0)) (.int .i64 (rfN xs 1)) (.int .i64 (rfN xs 2)) (.int .i64 (rfN xs 3)) (.slice (rfA A2 c2 xs) (rfCu xs).length (rfC c2 xs)) H2.out.1)
      refine bodyPost_ret (v := .tuple #[.agg #[(.int .i64 (b8 xs 4)), (.int .i64 (b8 xs 5)), (.int .i64 (b8 xs 6)), (.int .i64 (rfN xs 0)), (.int .i64 (rfN xs 1)), (.int .i64 (rfN xs 2)), (.int .i64 (rfN xs 3)), (.slice (rfA A2 c2 xs) (rfCu xs).length (rfC c2 xs))], .int .i64 0, .int .i64 0]) (by simp [results, Try.results36, asAddr, hD]) rfl ?_
      obtain ⟨e1, e2, e3⟩ := NO.out.2.1 HC.out H2.out.2.2.1
      refine ⟨rfA A2 c2 xs, rfC c2 xs, ?_, ?_, ?_⟩
      · rw [e1, e2, e3]; rfl
      · rw [e3]
        refine Bs.only6 (W := w2) (g := N1) H2.out.2.2.2 (only_set8 _ _ _ _ _ _ _ _) (fun h0 b e4 => ?_)
        obtain ⟨b0, e5, e6⟩ := cutA_block (show cutA _ _ _ = some b from e4)
        have := hX.out b0 e5
        omega
      · rw [hN'.out]; exact below_set8 _ _ _ _ _ _ _ _ H2.out.2.1 (Nat.le_of_lt hNN.out)
    · have HC := Aside0.mk hc
      clear hc
      go_wp2_with (go_at_call 60; refine (rch_right A2 256 c2 xs (cutA A2 c2 256) 256 (c2 - 256) ys w1 HX.out.1 HX.out.2 HC.out).mono ?_; rintro e2 w2 ⟨hB, h0, rfl⟩; (have H2 := Aside0.mk (And.intro ((hB.block _ (Array.getElem?_eq_some_iff.1 H1.out.2.1).1).trans H1.out.2.1) (And.intro (below_then H1.out.2.2.1 (by rw [← hN'.out]; exact H1.out.2.2.1.size) hB) (And.intro h0 (rfCu_bs h0 (HX.out.2.below hB)))))); clear hB h0 z0 z1 z2 z3 z4 z5 z6 z7 yf; (obtain ⟨z0, z1, z2, z3, z4, z5, z6, z7⟩ := row8_cells H2.out.1); (have yf := fun j => Go.Joins.unfrozen_of_block H2.out.1 j))
      have hD := rload8 (row8_set (.int .i64 (b8 ys 4)) (.int .i64 (b8 ys 5)) (.int .i64 (b8 ys 6)) (.int .i64 (rfN ys 0)) (.int .i64 (rfN ys 1)) (.int .i64 (rfN ys 2)) (.int .i64 (rfN ys 3)) (.slice (rfA (cutA A2 c2 256) (c2 - 256) ys) (rfCu ys).length (rfC (c2 - 256) ys)) H2.out.1)
      refine bodyPost_ret (v := .tuple #[.agg #[(.int .i64 (b8 ys 4)), (.int .i64 (b8 ys 5)), (.int .i64 (b8 ys 6)), (.int .i64 (rfN ys 0)), (.int .i64 (rfN ys 1)), (.int .i64 (rfN ys 2)), (.int .i64 (rfN ys 3)), (.slice (rfA (cutA A2 c2 256) (c2 - 256) ys) (rfCu ys).length (rfC (c2 - 256) ys))], .int .i64 1, .int .i64 0]) (by simp [results, Try.results36, asAddr, hD]) rfl ?_
      obtain ⟨e1, e2, e3⟩ := NO.out.2.2 HC.out H2.out.2.2.1
      refine ⟨rfA (cutA A2 c2 256) (c2 - 256) ys, rfC (c2 - 256) ys, ?_, ?_, ?_⟩
      · rw [e1, e2, e3]; rfl
      · rw [e3]
        refine Bs.only6 (W := w2) (g := N1) H2.out.2.2.2 (only_set8 _ _ _ _ _ _ _ _) (fun h0 b e4 => ?_)
        obtain ⟨b0, e5, e6⟩ := cutA_block (show cutA _ _ _ = some b from e4)
        have := hY.out b0 e5
        omega
      · rw [hN'.out]; exact below_set8 _ _ _ _ _ _ _ _ H2.out.2.1 (Nat.le_of_lt hNN.out)
end Go.Proofs.Ythhalmjapiempaa
