/- The walk of page's Encode. -/
import Derived.Test.YtbjfklgmbeaaoaaGreatKB
set_option linter.unusedVariables false
set_option linter.unusedSimpArgs false
namespace Go.Proofs.YtbjfklgmbeaaoaaGreat
open Go.RowKit

set_option maxHeartbeats 3000000 in
set_option maxRecDepth 100000 in
theorem lacks1_any (pk : Option Addr) (pkn pkc : Nat) (pv : Option Addr) (pvn pvc : Nat) (ps pr : Int) (w : World) :
    Calls Tryz.prog 29 #[.agg #[.slice pk pkn pkc, .slice pv pvn pvc, .int .i64 ps, .int .i64 pr]] w fun e w' => e = .returned (.bool (farB pvn pr && decide (pr = 0))) ∧ Below w.heap.size w w' := by
  have hB := (Below.refl _ w).alloc (Nat.le_refl _) (.cells #[.slice pk pkn pkc, .slice pv pvn pvc, .int .i64 ps, .int .i64 pr] 44)
  have hr := heap_alloc_new w (.cells #[.slice pk pkn pkc, .slice pv pvn pvc, .int .i64 ps, .int .i64 pr] 44)
  obtain ⟨w0, hw0⟩ : ∃ X, w.alloc (.cells #[.slice pk pkn pkc, .slice pv pvn pvc, .int .i64 ps, .int .i64 pr] 44) = X := ⟨_, rfl⟩
  obtain ⟨N, hN⟩ : ∃ X, w.heap.size = X := ⟨_, rfl⟩
  rw [hw0, hN] at hr
  rw [hw0] at hB
  have HB := Aside0.mk hB
  have HR := Aside0.mk hr
  have HN := Aside0.mk (And.intro hw0 hN)
  obtain ⟨y0, y1, y2, y3⟩ := item_cells2 hr
  clear hB hr hw0 hN
  go_enter Tryz.func29, Tryz.ntmps29
  go_upto_region 1 with fail
  rw [HN.out.1, HN.out.2]
  cases hb : farB pvn pr with
  | false =>
    have HF := Aside0.mk hb
    clear hb
    go_wp2_with (go_at_call 30; refine (far_any pk pkn pkc pv pvn pvc ps pr w0).mono ?_; rintro e w1 ⟨rfl, hB⟩; rw [HF.out]; (have H1 := Aside0.mk (below_then HB.out HB.out.size hB)); clear hB)
    go_ret
    refine ⟨?_, H1.out⟩
    show Ending.returned (.bool false) = .returned (.bool (farB pvn pr && decide (pr = 0)))
    rw [HF.out]
    rfl
  | true =>
    have HF := Aside0.mk hb
    clear hb
    go_wp2_with (go_at_call 30; refine (far_any pk pkn pkc pv pvn pvc ps pr w0).mono ?_; rintro e w1 ⟨rfl, hB⟩; rw [HF.out]; (have H1 := Aside0.mk (below_then HB.out HB.out.size hB)); clear y0 y1 y2 y3; (obtain ⟨y0, y1, y2, y3⟩ := item_cells2 ((hB.block _ (Array.getElem?_eq_some_iff.1 HR.out).1).trans HR.out)); clear hB)
    go_ret
    refine ⟨?_, H1.out⟩
    show Ending.returned (.bool (pr == 0)) = .returned (.bool (farB pvn pr && decide (pr = 0)))
    rw [HF.out, Bool.true_and]
    congr 2
def lacksB (q : IV) : Bool := farB q.v.length q.r && decide (q.r = 0)
theorem lacks_len {s r : Int} {qk qv : List UInt8} {b : Bool} {nv : Nat} (h : lacksB ⟨qk, qv, s, r⟩ = b) (h2 : qv.length = nv) : (farB nv r && decide (r = 0)) = b := by
  subst h2
  exact h


set_option maxHeartbeats 3000000 in
set_option maxRecDepth 100000 in
theorem lacksi_any (A : Option Addr) (n c : Nat) (hs : List IH) (l : List IV) (w : World) (h : Rc w 4 A n c (ihv hs)) (hl : hs.length = n) (hi : Its w hs l) :
    Calls Tryz.prog 68 #[.slice A n c, .func (.func 29) #[] #[]] w fun e w' => (∃ i : Int, e = .returned (.int .i64 i) ∧ decide (0 ≤ i) = l.any lacksB) ∧ Below w.heap.size w w' := by
  have hlim := h.lim
  have HR := Aside0.mk (And.intro h (And.intro hl hi))
  clear h hl hi
  go_enter Tryz.func68, Tryz.ntmps68
  go_wp2_with fail
  go_loopg [8] n (fun gk v8 wr => ∃ (j : Nat), Aside (gk + j = n) ∧ v8 = .int .i64 (j : Int) ∧ Aside0 (Below w.heap.size w wr ∧ (l.take j).any lacksB = false))
  case atStart => exact ⟨0, rfl, rfl, ⟨Below.refl _ _, by simp⟩⟩
  case round =>
    obtain ⟨j, hk, rfl, hI⟩ := hrel
    have hjm : j ≤ n := by have := hk.out; omega
    rcases Nat.lt_or_ge j n with hlt | hge
    · have d1 : decide ((j : Int) < (n : Int)) = true := decide_eq_true (by omega)
      have hjn : (j : Int) < (n : Int) := by omega
      obtain ⟨ad, p, rfl, hp, c0, c1, c2, c3⟩ := (HR.out.1.below hI.out.1).item HR.out.2.1 j hlt
      obtain ⟨q, hq, bk, bv, es, er⟩ := (HR.out.2.2.below hI.out.1).each j p hp
      obtain ⟨⟨pk, pkn, pkc⟩, ⟨pv, pvn, pvc⟩, ps, pr⟩ := p
      obtain ⟨qk, qv, qs, qr⟩ := q
      unfold shv at c0 c1
      unfold Bsh at bk bv
      simp only at c0 c1 c2 c3 bk bv es er
      subst es er
      have HQ := Aside0.mk (And.intro hq (And.intro bk bv))
      clear hq bk bv hp
      obtain ⟨b, hbv⟩ : ∃ b, lacksB (⟨qk, qv, ps, pr⟩ : IV) = b := ⟨_, rfl⟩
      have HB := Aside0.mk hbv
      clear hbv
      cases b with
      | true =>
        go_wp2_with (go_at_call 29; refine (lacks1_any pk pkn pkc pv pvn pvc ps pr wr).mono ?_; rintro e w1 ⟨rfl, hB⟩; rw [lacks_len HB.out HQ.out.2.2.len]; (have H1 := Aside0.mk (below_then hI.out.1 hI.out.1.size hB)); clear hB)
        go_ret
        refine ⟨⟨_, rfl, ?_⟩, H1.out⟩
        have hm : l.any lacksB = true := List.any_eq_true.2 ⟨_, List.mem_of_getElem? HQ.out.1, HB.out⟩
        first
          | (rw [hm]; exact decide_eq_true (by omega))
          | (rw [List.any_eq_true] at hm; exact ⟨fun _ => hm, fun _ => by omega⟩)
          | (refine iff_of_true (by omega) ?_; simpa using hm)
      | false =>
        go_wp2_with (go_at_call 29; refine (lacks1_any pk pkn pkc pv pvn pvc ps pr wr).mono ?_; rintro e w1 ⟨rfl, hB⟩; rw [lacks_len HB.out HQ.out.2.2.len]; (have H1 := Aside0.mk (below_then hI.out.1 hI.out.1.size hB)); clear hB)
        go_roundg (n - (j + 1))
        case measure => have := hk.out; omega
        case rel =>
          refine ⟨j + 1, (by show n - (j + 1) + (j + 1) = n; omega), by go_num, ⟨H1.out, ?_⟩⟩
          rw [List.take_add_one, HQ.out.1, Option.toList_some, List.any_append, hI.out.2, Bool.false_or, List.any_cons, List.any_nil, Bool.or_false]
          exact HB.out
    · obtain rfl : n = j := by omega
      have d1 : decide ((n : Int) < (n : Int)) = false := by simp
      have h9 := hI.out.2
      rw [List.take_of_length_le (by rw [← HR.out.2.2.len, HR.out.2.1]; exact Nat.le_refl _)] at h9
      have H9 := Aside0.mk h9
      clear h9
      go_wp2_with fail
      go_ret
      refine ⟨⟨_, rfl, ?_⟩, hI.out.1⟩
      first
        | (rw [H9.out]; decide)
        | (refine iff_of_false (by omega) ?_; intro q; have h8 := H9.out; rw [Bool.eq_false_iff] at h8; exact h8 (by simpa using q))
set_option maxHeartbeats 3000000 in
set_option maxRecDepth 100000 in
theorem lacksc_any (A : Option Addr) (n c : Nat) (hs : List IH) (l : List IV) (w : World) (h : Rc w 4 A n c (ihv hs)) (hl : hs.length = n) (hi : Its w hs l) :
    Calls Tryz.prog 32 #[.slice A n c, .func (.func 29) #[] #[]] w fun e w' => e = .returned (.bool (l.any lacksB)) ∧ Below w.heap.size w w' := by
  have HR := Aside0.mk (And.intro h (And.intro hl hi))
  clear h hl hi
  go_enter Tryz.func32, Tryz.ntmps32
  go_wp2_with (go_at_call 68; refine (lacksi_any A n c hs l w HR.out.1 HR.out.2.1 HR.out.2.2).mono ?_; rintro e w1 ⟨⟨i, rfl, hi⟩, hB⟩; (have HI := Aside0.mk (And.intro hi hB)); clear hi hB)
  go_ret
  refine ⟨?_, HI.out.2⟩
  show Ending.returned (.bool (decide (0 ≤ i))) = _
  rw [HI.out.1]

def encS0 (g : Int) : WS := ⟨0, false, List.replicate (cpI g).toNat 0⟩
def encSK (g : Int) (v : NV) : WS := v.kids.foldl (fun s q => kidS s g q) (encS0 g)
def encSI (g : Int) (v : NV) : WS := v.items.foldl (fun s q => itemS s g q) (encSK g v)
def encK (v : NV) : Int := if v.leaf = true then 76 else 66
def encC (v : NV) : Int := if v.leaf = true then (v.items.length : Int) else (v.kids.length : Int)
def encOk (g : Int) (v : NV) : Bool := rightN g v && !(v.items.any lacksB)
def pgE (g : Int) (v : NV) : Int := if encOk g v = true then (if (encSI g v).sp = true then 73 else wrE (encK v) g (encC v) 0 (encSI g v).xs) else 73
def pgB (g : Int) (v : NV) : List UInt8 := if pgE g v = 0 then wrB (encK v) g (encC v) 0 (encSI g v).xs else []
theorem right_bnd {g : Int} {v : NV} (h : rightN g v = true) : (1 ≤ g ∧ g ≤ 3) ∧ (∀ q ∈ v.items, (-1000000 ≤ q.s ∧ q.s ≤ 1000000) ∧ (0 ≤ q.r ∧ q.r ≤ 16383)) ∧ (∀ q ∈ v.kids, 0 ≤ q.r ∧ q.r ≤ 16383) := by
  unfold rightN at h
  rw [Bool.and_eq_true, Bool.and_eq_true] at h
  obtain ⟨hg, hb, _⟩ := h
  have hg' := of_decide_eq_true hg
  refine ⟨hg', fun q hq => ?_, fun q hq => ?_⟩
  · split at hb
    · unfold leafB at hb
      rw [Bool.and_eq_true] at hb
      have h2 := hb.2
      rw [Bool.not_eq_true'] at h2
      have h3 : wrongB g q = false := by
        cases hw : wrongB g q with
        | false => rfl
        | true => rw [List.any_eq_true.2 ⟨q, hq, hw⟩] at h2; cases h2
      unfold wrongB at h3
      have h4 : rightB g q.k.length q.v.length q.s q.r = true := by revert h3; cases rightB g q.k.length q.v.length q.s q.r <;> simp
      unfold rightB at h4
      rw [Bool.and_eq_true] at h4
      have h5 := (of_decide_eq_true h4.1).2
      have h6 := h4.2
      have hm := mv_range g
      split at h6
      · rename_i hr
        have := of_decide_eq_true h6
        omega
      · rename_i hr
        have := of_decide_eq_true h6
        unfold longI at h5
        rw [if_neg hr] at h5
        omega
    · unfold branchB at hb
      rw [Bool.and_eq_true] at hb
      have := (of_decide_eq_true hb.1).2.1
      rw [List.eq_nil_of_length_eq_zero this] at hq
      cases hq
  · split at hb
    · unfold leafB at hb
      rw [Bool.and_eq_true] at hb
      have := of_decide_eq_true hb.1
      rw [List.eq_nil_of_length_eq_zero this] at hq
      cases hq
    · unfold branchB at hb
      rw [Bool.and_eq_true] at hb
      obtain ⟨i, hi⟩ := List.getElem?_of_mem hq
      have h3 := (kidsB_iff g v.kids).1 hb.2 i q hi
      unfold kidB at h3
      rw [Bool.and_eq_true] at h3
      have := of_decide_eq_true h3.1
      omega
end Go.Proofs.YtbjfklgmbeaaoaaGreat
