/- The walk of pager's Right: a set of pages in a map. -/
import Derived.Test.YthhalmjapiempaaN2
import Derived.Test.YthhalmjapiempaaN3
import Derived.Maps.OwnOps
import Derived.Maps.Views
set_option linter.unusedVariables false
set_option linter.unusedSimpArgs false
namespace Go.Proofs.Ythhalmjapiempaa
open Go.RowKit Go.Maps

/-- A write's pages. -/
def pgs (id : Int) : Nat → List Int
  | 0 => []
  | k + 1 => pgs id k ++ [id + (k : Int)]
theorem pgs_len (id : Int) : ∀ k, (pgs id k).length = k
  | 0 => rfl
  | k + 1 => by rw [pgs, List.length_append, pgs_len id k]; rfl
theorem pgs_mem (id x : Int) : ∀ k, x ∈ pgs id k ↔ id ≤ x ∧ x < id + (k : Int)
  | 0 => ⟨fun h => (by cases h), fun h => absurd h.2 (by have := h.1; omega)⟩
  | k + 1 => by
    rw [pgs, List.mem_append, pgs_mem id x k, List.mem_singleton]
    omega
/-- May one write be, by itself? -/
def formB (pg : Int) (p : Int × List UInt8) : Bool := decide (1 ≤ p.2.length / 256 ∧ p.2.length % 256 = 0 ∧ 2 ≤ p.1 ∧ p.1 ≤ pg ∧ ((p.2.length / 256 : Nat) : Int) ≤ pg - p.1)
/-- May these writes be, behind pages that are written? -/
def prW (pg : Int) : List Int → List (Int × List UInt8) → Bool
  | _, [] => true
  | seen, p :: r => formB pg p && (pgs p.1 (p.2.length / 256)).all (fun x => !seen.contains x) && prW pg (seen ++ pgs p.1 (p.2.length / 256)) r
def prgB (l : List (Int × List UInt8)) (m : MV) : Bool := prW m.pg [] l && mrightB m.ge m.ph m.tg m.tx m.rt m.pg m.li m.cu.length
/-- The map of pages that are written, as it reads. -/
def sD (seen : List Int) : DataW Unit := seen.foldl (fun m x => m.put (.int .i64 x) (.lit (.int .i64 1))) (.map [])
theorem sD_snoc (seen : List Int) (x : Int) : sD (seen ++ [x]) = (sD seen).put (.int .i64 x) (.lit (.int .i64 1)) := by simp [sD]
theorem sD_at (x : Int) (seen : List Int) : (sD seen).atKey (.int .i64 x) (.lit (.int .i64 0)) = .lit (.int .i64 (if seen.contains x = true then 1 else 0)) := by
  have key : ∀ (s : List Int) (D : DataW Unit), IsMap D → (s.foldl (fun m x => m.put (.int .i64 x) (.lit (.int .i64 1))) D).atKey (.int .i64 x) (.lit (.int .i64 0)) = if s.contains x = true then .lit (.int .i64 1) else D.atKey (.int .i64 x) (.lit (.int .i64 0)) := by
    intro s
    induction s with
    | nil => intro D _; simp
    | cons y r ih =>
      intro D hD
      rw [List.foldl_cons, ih _ (hD.put _ _)]
      by_cases hr : r.contains x = true
      · have : (y :: r).contains x = true := by simp at hr ⊢; exact .inr hr
        rw [if_pos hr, if_pos this]
      · rw [if_neg hr]
        by_cases he : y = x
        · subst he
          rw [atKey_put_same hD (by simp [WideAt.IsKeyLit]), if_pos (by simp)]
        · rw [atKey_put_other (by intro q; injection q with _ q; exact he q.symm), if_neg]
          simp at hr ⊢
          exact ⟨fun q => he q.symm, hr⟩
  have := key seen (.map []) isMap_empty
  unfold sD
  rw [this]
  split
  · rfl
  · rfl
/-- What a walk wants of the writes. -/
structure Hl (hs : List (Int × Option Addr × Nat × Nat)) (l : List (Int × List UInt8)) : Prop where
  len : hs.length = l.length
  each : ∀ (j : Nat) (p : Int × Option Addr × Nat × Nat), hs[j]? = some p → ∃ q : Int × List UInt8, l[j]? = some q ∧ p.1 = q.1 ∧ p.2.2.1 = q.2.length ∧ p.2.2.1 ≤ 140737488355328 ∧ -9223372036854775808 ≤ p.1 ∧ p.1 ≤ 9223372036854775807
theorem Hs.hl {w0 : World} {R : List (Nat × Obj)} {W : World} {hs : List (Int × Option Addr × Nat × Nat)} {l : List (Int × List UInt8)} (h : Hs w0 R W hs l) : Hl hs l :=
  ⟨h.len, fun j p hj => by obtain ⟨q, a, b, c, _, e⟩ := h.each j p hj; exact ⟨q, a, b, c.len.symm, c.lim, e⟩⟩
theorem lawI : Keyed Try.prog 3 := int_keyed Try.underlying3
theorem zeroI (w : World) : (zeroValue 3).run Try.prog w = .ok (.int .i64 0) w := by kernel_rfl
/-- The map and the meta's box, while Right runs. -/
structure PR (W : World) (u : Array Value) (B : Nat) (seen : List Int) (w1 : World) : Prop where
  bel : Below W.heap.size W w1
  row : w1.heap[W.heap.size]? = some (.cells u 36)
  own : w1.ownsMap Try.prog 3 (plainElem (H := Unit) Try.prog 3) B seen.length (sD seen)
  lo : W.heap.size < B
theorem PR.alloc {W : World} {u : Array Value} {B : Nat} {seen : List Int} {w1 : World} (h : PR W u B seen w1) (o : Obj) : PR W u B seen (w1.alloc o) :=
  ⟨h.bel.alloc h.bel.size o, (Below.heap_alloc _ _ _ (Array.getElem?_eq_some_iff.1 h.row).1).trans h.row, h.own.alloc o, h.lo⟩
set_option maxHeartbeats 16000000 in
set_option maxRecDepth 100000 in
theorem pright_any (A : Option Addr) (n c : Nat) (hs : List (Int × Option Addr × Nat × Nat)) (l : List (Int × List UInt8)) (m : MV) (A' : Option Addr) (c' : Nat) (W : World) (hr : Rc W 2 A n c (wv hs)) (hl : hs.length = n) (hh : Hl hs l) (hm : Bs W A' m.cu.length c' m.cu) (hpg : m.pg ≤ 1000000) :
    Calls Try.prog 26 #[.slice A n c, .agg (m.agg A' c')] W fun e w' => e = .returned (.bool (prgB l m)) ∧ Below W.heap.size W w' := by
  have hmm := @run_makeMap Try.prog
  have hlim := hr.lim
  have hml := hm.lim
  have HR := Aside0.mk (And.intro hr (And.intro hl hh))
  obtain ⟨ge, ph, tg, tx, rt, pg, li, cu⟩ := m
  obtain ⟨rb, hrb⟩ : ∃ b, prgB l ⟨ge, ph, tg, tx, rt, pg, li, cu⟩ = b := ⟨_, rfl⟩
  rw [hrb]
  replace hrb := Aside0.mk hrb
  have HP0 := Aside0.mk (show PR W #[.int .i64 ge, .int .i64 ph, .int .i64 tg, .int .i64 tx, .int .i64 rt, .int .i64 pg, .int .i64 li, .slice A' cu.length c'] (W.heap.size + 1) [] ((W.alloc (.cells #[.int .i64 ge, .int .i64 ph, .int .i64 tg, .int .i64 tx, .int .i64 rt, .int .i64 pg, .int .i64 li, .slice A' cu.length c'] 36)).alloc (.map #[] 0)) from by
    refine ⟨((Below.refl _ W).alloc (Nat.le_refl _) _).alloc (by simp) _, (Below.heap_alloc _ _ _ (by simp)).trans (heap_alloc_new W _), ?_, by omega⟩
    have := World.ownsMap_made (H := Unit) (W.alloc (.cells #[.int .i64 ge, .int .i64 ph, .int .i64 tg, .int .i64 tx, .int .i64 rt, .int .i64 pg, .int .i64 li, .slice A' cu.length c'] 36)) Try.prog 3 (plainElem Try.prog 3)
    rw [show sD [] = .map [] from rfl, show ([] : List Int).length = 0 from rfl]
    rw [show (W.alloc (.cells #[.int .i64 ge, .int .i64 ph, .int .i64 tg, .int .i64 tx, .int .i64 rt, .int .i64 pg, .int .i64 li, .slice A' cu.length c'] 36)).heap.size = W.heap.size + 1 by simp] at this
    exact this)
  clear hr hl hh hm
  show Calls Try.prog 26 #[.slice A n c, .agg #[.int .i64 ge, .int .i64 ph, .int .i64 tg, .int .i64 tx, .int .i64 rt, .int .i64 pg, .int .i64 li, .slice A' cu.length c']] W _
  go_enter Try.func26, Try.ntmps26
  go_wp2_with fail
  obtain ⟨u, hu⟩ : ∃ x, (#[.int .i64 ge, .int .i64 ph, .int .i64 tg, .int .i64 tx, .int .i64 rt, .int .i64 pg, .int .i64 li, .slice A' cu.length c'] : Array Value) = x := ⟨_, rfl⟩
  rw [hu] at HP0 ⊢
  obtain ⟨N0, hN0⟩ : ∃ x, W.heap.size = x := ⟨_, rfl⟩
  obtain ⟨B, hB⟩ : ∃ x, N0 + 1 = x := ⟨_, rfl⟩
  rw [hN0, hB] at HP0
  rw [hN0, hB]
  have HU := Aside0.mk hu
  have HN0 := Aside0.mk hN0
  clear hu hN0 hB hmm
  go_loopg [13] n (fun gk v13 wr => ∃ (j : Nat) (seen : List Int), Aside (gk + j = n) ∧ v13 = .int .i64 (j : Int) ∧ Aside0 (PR W u B seen wr ∧ prW pg seen (l.drop j) = prW pg [] l ∧ seen.length ≤ j * 1000000))
  case atStart => exact ⟨0, [], rfl, rfl, ⟨HP0.out, rfl, Nat.zero_le _⟩⟩
  clear HP0
  case round =>
    obtain ⟨j, seen, hk, rfl, hI⟩ := hrel
    have hjm : j ≤ n := by have := hk.out; omega
    have hr0 := hI.out.1.row
    rw [HN0.out, ← HU.out] at hr0
    obtain ⟨y0, y1, y2, y3, y4, y5, y6, y7⟩ := row8_cells hr0
    clear hr0
    rcases Nat.lt_or_ge j n with hlt | hge
    · have d1 : decide ((j : Int) < (n : Int)) = true := decide_eq_true (by omega)
      have hjn : (j : Int) < (n : Int) := by omega
      obtain ⟨ad, p, rfl, hp, z0, z1⟩ := (HR.out.1.below hI.out.1.bel).two HR.out.2.1 j hlt
      obtain ⟨q, hq, hpq, hpl, hpm, hpb⟩ := HR.out.2.2.each j p hp
      have hdr : l.drop j = q :: l.drop (j + 1) := by
        have hj2 : j < l.length := (List.getElem?_eq_some_iff.1 hq).1
        rw [List.drop_eq_getElem_cons hj2]
        congr 1
        rw [List.getElem?_eq_getElem hj2] at hq
        exact Option.some.inj hq
      obtain ⟨m, hm⟩ : ∃ x, p.2.2.1 = x := ⟨_, rfl⟩
      obtain ⟨id, hid⟩ : ∃ x, p.1 = x := ⟨_, rfl⟩
      obtain ⟨k, hkm⟩ : ∃ x, m / 256 = x := ⟨_, rfl⟩
      obtain ⟨BB, hBB⟩ : ∃ x, p.2.1 = x := ⟨_, rfl⟩
      obtain ⟨bc, hbc⟩ : ∃ x, p.2.2.2 = x := ⟨_, rfl⟩
      rw [hid] at z0 hpb hpq
      rw [hm] at z1 hpl hpm
      rw [hBB, hbc] at z1
      have hv : (m : Int) / 256 = (k : Int) := by omega
      have hfm : formB pg q = decide (1 ≤ k ∧ m % 256 = 0 ∧ 2 ≤ id ∧ id ≤ pg ∧ (k : Int) ≤ pg - id) := by unfold formB; rw [← hpl, ← hpq, hkm]
      have HW := Aside0.mk (show prW pg [] l = (formB pg q && (pgs id k).all (fun x => !seen.contains x) && prW pg (seen ++ pgs id k) (l.drop (j + 1))) by rw [← hI.out.2.1, hdr, prW, ← hpl, ← hpq, hkm])
      have HPR := Aside0.mk hI.out.1
      have HSL := Aside0.mk hI.out.2.2
      have HB1 := Aside0.mk (hI.out.1.alloc (.cells #[.int .i64 id, .slice BB m bc] 65))
      have hRF : ¬ (1 ≤ k ∧ m % 256 = 0 ∧ 2 ≤ id ∧ id ≤ pg ∧ (k : Int) ≤ pg - id) → rb = false := fun z => by
        rw [← hrb.out]
        unfold prgB
        rw [HW.out, hfm, decide_eq_false z]
        rfl
      have HRF := Aside0.mk hRF
      replace hfm := Aside0.mk hfm
      clear hp hq hdr hI hm hid hBB hbc hRF hpq hpl
      go_upto_region 5 with fail
      obtain ⟨W1, hW1⟩ : ∃ X, wr.alloc (.cells #[.int .i64 id, .slice BB m bc] 65) = X := ⟨_, rfl⟩
      have hrow := heap_alloc_new wr (.cells #[.int .i64 id, .slice BB m bc] 65)
      rw [hW1] at HB1 hrow ⊢
      obtain ⟨N, hN⟩ : ∃ N, wr.heap.size = N := ⟨_, rfl⟩
      rw [hN] at hrow ⊢
      have hBN := Aside0.mk (show N ≠ B from by have := HPR.out.own.lt; omega)
      have HRW := Aside0.mk hrow
      have b0 : W1.cell? ⟨N, 0, none⟩ = some (.int .i64 id) := by rw [cell_of_row _ _ _ _ _ _ hrow]; rfl
      have b1 : W1.cell? ⟨N, 1, none⟩ = some (.slice BB m bc) := by rw [cell_of_row _ _ _ _ _ _ hrow]; rfl
      clear hW1 hrow z0 z1 hN y0 y1 y2 y3 y4 y5 y6 y7
      have hr0 := HB1.out.row
      rw [HN0.out, ← HU.out] at hr0
      obtain ⟨y0, y1, y2, y3, y4, y5, y6, y7⟩ := row8_cells hr0
      clear hr0
      by_cases t1 : k < 1
      · have f1 : decide ((k : Int) < 1) = true := decide_eq_true (by omega)
        have f1' : decide (k < 1) = true := decide_eq_true t1
        have RF := Aside0.mk (HRF.out (by omega))
        clear hkm
        go_wp2_with fail
        go_ret
        rw [RF.out]
        exact ⟨rfl, HB1.out.bel⟩
      have f1 : decide ((k : Int) < 1) = false := decide_eq_false (by omega)
      have f1' : decide (k < 1) = false := decide_eq_false t1
      obtain ⟨rm, hrm⟩ : ∃ x : Int, (m : Int) % 256 = x := ⟨_, rfl⟩
      by_cases t2 : rm = 0
      rotate_left
      · obtain ⟨f2a, f2b, f2c, f2d⟩ := eq_no t2
        have RF := Aside0.mk (HRF.out (by omega))
        clear hkm t2
        go_wp2_with fail
        go_ret
        rw [RF.out]
        exact ⟨rfl, HB1.out.bel⟩
      obtain ⟨f2a, f2b, f2c, f2d⟩ := eq_yes t2
      by_cases t3 : id < 2
      · have f3 : decide (id < 2) = true := decide_eq_true t3
        have RF := Aside0.mk (HRF.out (by omega))
        clear hkm t2 t3
        go_wp2_with fail
        go_ret
        rw [RF.out]
        exact ⟨rfl, HB1.out.bel⟩
      have f3 : decide (id < 2) = false := decide_eq_false t3
      by_cases t4 : pg < id
      · have f4 : decide (pg < id) = true := decide_eq_true t4
        have RF := Aside0.mk (HRF.out (by omega))
        clear hkm t2 t3 t4
        go_wp2_with fail
        go_ret
        rw [RF.out]
        exact ⟨rfl, HB1.out.bel⟩
      have f4 : decide (pg < id) = false := decide_eq_false t4
      have iw : IntKind.i64.wrap (pg - id) = pg - id := IntWalk.i64_in _ (by omega)
      by_cases t5 : pg - id < (k : Int)
      · have f5 : decide (pg - id < (k : Int)) = true := decide_eq_true t5
        have RF := Aside0.mk (HRF.out (by omega))
        clear hkm t2 t3 t4 t5
        go_wp2_with fail
        go_ret
        rw [RF.out]
        exact ⟨rfl, HB1.out.bel⟩
      have f5 : decide (pg - id < (k : Int)) = false := decide_eq_false t5
      have HFM := Aside0.mk (show formB pg q = true by rw [hfm.out]; exact decide_eq_true (by omega))
      have HIB := Aside0.mk (show 2 ≤ id ∧ id + (k : Int) ≤ pg by omega)
      have hib : 2 ≤ id ∧ id ≤ 1000000 := by omega
      have hkb : (k : Int) ≤ 1000000 := by omega
      clear hkm t1 t2 t3 t4 t5
      go_wp2_with fail
      clear f1 f1' f2a f2b f2c f2d f3 f4 iw f5 hrm y0 y1 y2 y3 y4 y5 y6 y7 b0 b1
      have HRW1 := Aside0.mk (show W1.heap[N]? = some (.cells #[.int .i64 id, .slice BB m bc] 65) from HRW.out)
      have H10 := Aside0.mk (show PR W u B (seen ++ pgs id 0) W1 by rw [show seen ++ pgs id 0 = seen from List.append_nil _]; exact HB1.out)
      go_loopg [52] k (fun gk2 v52 wr => ∃ i : Nat, Aside (gk2 + i = k) ∧ v52 = .int .i64 (i : Int) ∧ Aside0 (PR W u B (seen ++ pgs id i) wr ∧ wr.heap[N]? = some (.cells #[.int .i64 id, .slice BB m bc] 65) ∧ ∀ x ∈ pgs id i, seen.contains x = false))
      case atStart => exact ⟨0, rfl, rfl, ⟨H10.out, HRW1.out, fun x hx => by cases hx⟩⟩
      clear H10 HRW1
      case round =>
        obtain ⟨i, hk2, rfl, hJ⟩ := hrel
        have hik : i ≤ k := by have := hk2.out; omega
        have hrw := hJ.out.2.1
        have b0 : wr.cell? ⟨N, 0, none⟩ = some (.int .i64 id) := by rw [cell_of_row _ _ _ _ _ _ hrw]; rfl
        clear hrw
        rcases Nat.lt_or_ge i k with hlt2 | hge2
        · have e1 : decide ((i : Int) < (k : Int)) = true := decide_eq_true (by omega)
          have e1' : decide (i < k) = true := decide_eq_true hlt2
          have iw : IntKind.i64.wrap (id + (i : Int)) = id + (i : Int) := IntWalk.i64_in _ (by omega)
          have hkey := Aside0.mk (keyOf_int_mk (P := Try.prog) (q := .i64) (a := id + (i : Int)) Try.underlying3 (WalkArith.wf_i64 (by omega)))
          have hnot : (pgs id i).contains (id + (i : Int)) = false := by
            cases hc : (pgs id i).contains (id + (i : Int)) with
            | false => rfl
            | true =>
              have := (pgs_mem id (id + (i : Int)) i).1 (by simpa using hc)
              omega
          have hat := sD_at (id + (i : Int)) (seen ++ pgs id i)
          have hcc : (seen ++ pgs id i).contains (id + (i : Int)) = seen.contains (id + (i : Int)) := by
            rw [List.contains_append, hnot, Bool.or_false]
          rw [hcc] at hat
          cases hs : seen.contains (id + (i : Int)) with
          | true =>
            rw [hs] at hat
            have HAT := Aside0.mk hat
            have RF := Aside0.mk (show rb = false by
              rw [← hrb.out]
              unfold prgB
              rw [HW.out]
              have : (pgs id k).all (fun x => !seen.contains x) = false := by
                rw [List.all_eq_false]
                exact ⟨id + (i : Int), (pgs_mem id _ k).2 (by omega), by rw [hs]; decide⟩
              rw [this, Bool.and_false, Bool.false_and, Bool.false_and])
            have u1 : decide ((0 : Int) < 1) = true := by decide
            have HOWN := Aside0.mk hJ.out.1.own
            clear hat hcc hnot hs
            go_wp2_with (at_lookup; refine wpList_lookup_own_int _ rfl _ _ 110 rfl 3 3 .i64 lawI Try.underlying110 Try.underlying3 (zeroI _) B _ _ rfl HOWN.out _ _ rfl hkey.out ?_; intro c hat hwc; (obtain rfl : (1 : Int) = c := by (have := HAT.out.symm.trans hat); injection this with this; injection this with _ this); clear hat hwc)
            go_ret
            rw [RF.out]
            exact ⟨rfl, hJ.out.1.bel⟩
          | false =>
            rw [hs] at hat
            have HAT := Aside0.mk hat
            have HSN := Aside0.mk hs
            have u1 : decide ((0 : Int) < 0) = false := by decide
            have HOWN := Aside0.mk hJ.out.1.own
            have hln : (seen ++ pgs id i).length < 9223372036854775807 := by
              rw [List.length_append, pgs_len]
              have := HSL.out
              omega
            have HLN := Aside0.mk hln
            clear hat hcc hnot hs hln
            go_wp2_with (first
              | (at_lookup; refine wpList_lookup_own_int _ rfl _ _ 110 rfl 3 3 .i64 lawI Try.underlying110 Try.underlying3 (zeroI _) B _ _ rfl HOWN.out _ _ rfl hkey.out ?_; intro c hat hwc; (obtain rfl : (0 : Int) = c := by (have := HAT.out.symm.trans hat); injection this with this; injection this with _ this); clear hat hwc)
              | (at_mapUpdate; refine wpList_mapUpdate_own _ rfl _ _ _ 110 rfl 3 3 lawI Try.underlying110 _ B _ _ rfl HOWN.out (by unfold maxLen; exact Nat.lt_of_lt_of_le HLN.out (by omega)) _ _ _ rfl rfl hkey.out _ [] (plainElem_int Try.underlying3 (WalkArith.wf_i64 (by omega))) ?_; intro w1 hown1 hgrow1; (have H1 := Aside0.mk (And.intro hown1 hgrow1)); clear hown1 hgrow1))
            go_roundg (k - (i + 1))
            case measure => have := hk2.out; omega
            case rel =>
              refine ⟨i + 1, by have := hk2.out; exact (show k - (i + 1) + (i + 1) = k by omega), by go_num, ⟨⟨?_, ?_, ?_, hJ.out.1.lo⟩, ?_, ?_⟩⟩
              · exact hJ.out.1.bel.grown H1.out.2 hJ.out.1.bel.size (fun z e => by injection e with e; have := hJ.out.1.lo; omega)
              · exact (H1.out.2.block _ (Array.getElem?_eq_some_iff.1 hJ.out.1.row).1 (by intro e; injection e with e; have := hJ.out.1.lo; omega)).trans hJ.out.1.row
              · have := H1.out.1
                rw [show seen ++ pgs id (i + 1) = (seen ++ pgs id i) ++ [id + (i : Int)] by rw [pgs, List.append_assoc], sD_snoc, List.length_append]
                exact this
              · exact (H1.out.2.block _ (Array.getElem?_eq_some_iff.1 hJ.out.2.1).1 (by intro e; injection e with e; exact hBN.out e)).trans hJ.out.2.1
              · intro x hx
                rcases List.mem_append.1 hx with hx | hx
                · exact hJ.out.2.2 x hx
                · obtain rfl := List.mem_singleton.1 hx
                  exact HSN.out
        · obtain rfl : k = i := by omega
          have e1 : decide ((k : Int) < (k : Int)) = false := by simp
          clear b0
          go_wp2_with fail
          go_roundg (n - (j + 1))
          case measure => have := hk.out; omega
          case rel =>
            refine ⟨j + 1, seen ++ pgs id k, by have := hk.out; exact (show n - (j + 1) + (j + 1) = n by omega), by go_num, ⟨hJ.out.1, ?_, by rw [List.length_append, pgs_len]; have := HSL.out; omega⟩⟩
            have : (pgs id k).all (fun x => !seen.contains x) = true := by
              rw [List.all_eq_true]
              intro x hx
              rw [hJ.out.2.2 x hx]
              rfl
            rw [HW.out, HFM.out, this]
            rfl
    · obtain rfl : n = j := by omega
      have d1 : decide ((n : Int) < (n : Int)) = false := by simp
      have hdr : l.drop n = [] := List.drop_of_length_le (by have := HR.out.2.2.len; have := HR.out.2.1; omega)
      have HW := Aside0.mk (show prW pg [] l = true by rw [← hI.out.2.1, hdr]; rfl)
      have HMR := Aside0.mk (show mrightB ge ph tg tx rt pg li cu.length = rb by rw [← hrb.out]; unfold prgB; rw [HW.out]; rfl)
      have HPR := Aside0.mk hI.out.1
      clear hI hdr
      go_wp2_with (go_at_call 58; refine (mright_any ge ph tg tx rt pg li A' cu.length c' _ hml).mono ?_; rintro e w1 ⟨rfl, hB1⟩; rw [HMR.out])
      go_ret
      exact ⟨rfl, below_then HPR.out.bel HPR.out.bel.size hB1⟩
end Go.Proofs.Ythhalmjapiempaa
