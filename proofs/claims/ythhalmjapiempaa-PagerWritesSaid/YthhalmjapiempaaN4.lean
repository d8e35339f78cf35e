/- The walk of a pager's ops, one behind the other. -/
import Derived.Test.YthhalmjapiempaaN3
import Derived.WalkMore
set_option linter.unusedVariables false
set_option linter.unusedSimpArgs false
namespace Go.Proofs.Ythhalmjapiempaa
open Go.RowKit

/-- One op on a disk: bytes are written, none: a sync. -/
def oneE (d : DV) (p : Int × List UInt8) : Int := if p.2.length = 0 then syncE d else writeE d (p.1 * 4) p.2
def oneD (d : DV) (p : Int × List UInt8) : DV := if p.2.length = 0 then syncD d else writeD d (p.1 * 4) p.2
def stp (s : Int × DV) (p : Int × List UInt8) : Int × DV := if s.1 = 0 then (oneE s.2 p, oneD s.2 p) else s
def allS (d : DV) (pages : Int) (l : List (Int × List UInt8)) : Int × DV := l.foldl stp (growE d (pages * 4), growD d (pages * 4))
theorem stp_stop (s : Int × DV) (h : s.1 ≠ 0) (l : List (Int × List UInt8)) : l.foldl stp s = s := by
  induction l with
  | nil => rfl
  | cons p r ih => rw [List.foldl_cons, show stp s p = s from if_neg h]; exact ih
/-- Bounds that a walk wants. -/
structure AB (d : DV) (rl : Nat) (op : Int) : Prop where
  rl : d.row.length ≤ rl
  o0 : 0 ≤ d.ops
  o1 : d.ops ≤ op
  fu : d.fuse ≤ 9223372036854775807
theorem AB.opd {d : DV} {rl : Nat} {op : Int} (h : AB d rl op) : AB (opD d) rl (op + 1) := by
  refine ⟨h.rl, ?_, ?_, ?_⟩
  · show 0 ≤ d.ops + 1
    have := h.o0; omega
  · show d.ops + 1 ≤ op + 1
    have := h.o1; omega
  · show (if d.fuse - 1 < -1 then -1 else d.fuse - 1) ≤ _
    have := h.fu
    split <;> omega
theorem AB.up {d : DV} {rl rl1 : Nat} {op op1 : Int} (h : AB d rl op) (h1 : rl ≤ rl1) (h2 : op ≤ op1) : AB d rl1 op1 := ⟨by have := h.rl; omega, h.o0, by have := h.o1; omega, h.fu⟩
theorem AB.grow {d : DV} {rl : Nat} {op : Int} (h : AB d rl op) (k : Int) : AB (growD d k) rl op := by
  unfold growD
  split
  · exact ⟨h.rl, h.o0, h.o1, h.fu⟩
  · exact h
theorem AB.sync {d : DV} {rl : Nat} {op : Int} (h : AB d rl op) : AB (syncD d) rl (op + 1) := by
  unfold syncD
  split
  · exact h.up (Nat.le_refl _) (by omega)
  · split
    · exact h.opd
    · have := h.opd
      exact ⟨Nat.zero_le _, this.o0, this.o1, this.fu⟩
theorem AB.write {d : DV} {rl : Nat} {op : Int} (h : AB d rl op) (a : Int) (b : List UInt8) : AB (writeD d a b) (rl + b.length) (op + 1) := by
  unfold writeD
  split
  · refine AB.opd (d := { d with row := d.row ++ segs a.toNat b (b.length / 64) }) ⟨?_, h.o0, h.o1, h.fu⟩
    show (d.row ++ segs a.toNat b (b.length / 64)).length ≤ _
    rw [List.length_append, segs_len]
    have := h.rl
    omega
  · exact h.up (by omega) (by omega)
def totB (l : List (Int × List UInt8)) : Nat := (l.map fun p => p.2.length).sum
theorem totB_append (a b : List (Int × List UInt8)) : totB (a ++ b) = totB a + totB b := by simp [totB]
theorem AB.step {s : Int × DV} {rl : Nat} {op : Int} (h : AB s.2 rl op) (p : Int × List UInt8) : AB (stp s p).2 (rl + p.2.length) (op + 1) := by
  unfold stp
  split
  · show AB (oneD s.2 p) _ _
    unfold oneD
    split
    · exact h.sync.up (by omega) (by omega)
    · exact h.write _ _
  · exact h.up (by omega) (by omega)
theorem AB.all {s : Int × DV} {rl : Nat} {op : Int} (h : AB s.2 rl op) (l : List (Int × List UInt8)) : AB (l.foldl stp s).2 (rl + totB l) (op + l.length) := by
  induction l generalizing s rl op with
  | nil => exact h.up (by omega) (by simp)
  | cons p r ih =>
    have := ih (h.step p)
    rw [List.foldl_cons]
    refine this.up ?_ ?_
    · have : totB (p :: r) = p.2.length + totB r := by simp [totB]
      omega
    · simp; omega
theorem totB_take (l : List (Int × List UInt8)) (j : Nat) : totB (l.take j) ≤ totB l := by
  have := totB_append (l.take j) (l.drop j)
  rw [List.take_append_drop] at this
  omega
theorem totB_mem (l : List (Int × List UInt8)) (j : Nat) (q : Int × List UInt8) (h : l[j]? = some q) : totB (l.take j) + q.2.length ≤ totB l := by
  have h1 := totB_take l (j + 1)
  rw [List.take_add_one, h, totB_append] at h1
  have : totB [q] = q.2.length := by simp [totB]
  have e : totB ((some q).toList) = q.2.length := this
  omega
set_option maxHeartbeats 8000000 in
set_option maxRecDepth 100000 in
theorem all_h {w0 : World} {g gp : Nat} {R : List (Nat × Obj)} {d : DV} {W : World} (h : DH w0 g R d W) (hp : (gp, pgo g) ∈ R) (pages : Int) (A : Option Addr) (n c : Nat) (hs : List (Int × Option Addr × Nat × Nat)) (l : List (Int × List UInt8)) (rl : Nat) (op : Int)
    (hr : Rc W 2 A n c (wv hs)) (hfr : Free w0 R A n) (hh : Hs w0 R W hs l) (hl : hs.length = n) (hab : AB d rl op) (hrl : rl + totB l ≤ 900000) (hop : op + n ≤ 900000) (hpg : -1000000 ≤ pages ∧ pages ≤ 1000000) (hat : ∀ q ∈ l, -1000000 ≤ q.1 ∧ q.1 ≤ 1000000) :
    Calls Try.prog 45 #[.pointer (some ⟨gp, 0, none⟩), .int .i64 pages, .slice A n c] W fun e w' => e = .returned (.int .i64 (allS d pages l).1) ∧ DH w0 g R (allS d pages l).2 w' := by
  have c0 := pgo_cell (h.row hp)
  have hlim := hr.lim
  have HD := Aside0.mk (And.intro h hp)
  have HR := Aside0.mk (And.intro hr (And.intro hfr (And.intro hh hl)))
  have HA := Aside0.mk (And.intro hab (And.intro hrl (And.intro hop hat)))
  have iw1 : IntKind.i64.wrap (pages * 4) = pages * 4 := IntWalk.i64_in _ (by omega)
  clear h hr hfr hh hl hab hrl hop hat hp
  go_enter Try.func45, Try.ntmps45
  go_wp2
  go_step3
  go_wp2_with (go_at_call 74; refine (grow_h HD.out.1 (pages * 4)).mono ?_; rintro e w1 ⟨rfl, hH⟩; (have H1 := Aside0.mk hH); clear hH)
  go_step3
  go_wp2_with fail
  clear c0 iw1
  go_loopg [7, 19] n (fun gk v7 v19 wr => ∃ (j : Nat) (s : Int × DV), Aside (gk + j = n) ∧ v19 = .int .i64 (j : Int) ∧ v7 = .int .i64 s.1 ∧ Aside0 (s = (l.take j).foldl stp (growE d (pages * 4), growD d (pages * 4)) ∧ DH w0 g R s.2 wr))
  case atStart => exact ⟨0, (growE d (pages * 4), growD d (pages * 4)), rfl, rfl, rfl, ⟨rfl, H1.out⟩⟩
  clear H1
  case round =>
    obtain ⟨j, s, hk, rfl, rfl, hI⟩ := hrel
    have hjm : j ≤ n := by have := hk.out; omega
    obtain ⟨ev, dv⟩ := s
    have c0 := pgo_cell (hI.out.2.row HD.out.2)
    rcases Nat.lt_or_ge j n with hlt | hge
    · have d1 : decide ((j : Int) < (n : Int)) = true := decide_eq_true (by omega)
      have hjn : (j : Int) < (n : Int) := by omega
      obtain ⟨ad, p, rfl, hp, z0, z1⟩ := (HR.out.1.same2 HR.out.2.1 HD.out.1 hI.out.2).two HR.out.2.2.2 j hlt
      obtain ⟨q, hq, hpq, hbs, hfq, hb1⟩ := (HR.out.2.2.1.same HD.out.1 hI.out.2).each j p hp
      have HP := Aside0.mk (And.intro hq (And.intro hpq (And.intro hbs hfq)))
      have HAB := Aside0.mk (show AB dv (rl + totB (l.take j)) (op + j) ∧ rl + totB (l.take j) + q.2.length ≤ 900000 ∧ op + j + 1 ≤ 900000 ∧ -1000000 ≤ p.1 ∧ p.1 ≤ 1000000 by
        have h1 := (HA.out.1.grow (pages * 4))
        have h2 := AB.all (s := (growE d (pages * 4), growD d (pages * 4))) h1 (l.take j)
        rw [← hI.out.1] at h2
        have h3 := totB_mem l j q hq
        have h4 := HA.out.2.1
        have h5 := HA.out.2.2.1
        have h6 := HA.out.2.2.2 q (List.mem_of_getElem? hq)
        have h7 : (l.take j).length ≤ j := by rw [List.length_take]; exact Nat.min_le_left _ _
        exact ⟨h2.up (Nat.le_refl _) (by omega), by omega, by omega, by omega, by omega⟩)
      have HST := Aside0.mk (show (l.take (j + 1)).foldl stp (growE d (pages * 4), growD d (pages * 4)) = stp (ev, dv) q by
        rw [List.take_add_one, hq, Option.toList_some, List.foldl_append, ← hI.out.1]; rfl)
      have HRI := Aside0.mk hI.out.1
      have HDI := Aside0.mk hI.out.2
      have HB0 := Aside0.mk ((Below.refl _ wr).alloc (Nat.le_refl _) (.cells #[.int .i64 p.1, .slice p.2.1 p.2.2.1 p.2.2.2] 92))
      have hrow := heap_alloc_new wr (.cells #[.int .i64 p.1, .slice p.2.1 p.2.2.1 p.2.2.2] 92)
      have hpl := hbs.lim
      have hqn := hbs.len
      clear hp hq hpq hbs hfq hI
      go_upto_region 6 with fail
      obtain ⟨W1, hW1⟩ : ∃ X, wr.alloc (.cells #[.int .i64 p.1, .slice p.2.1 p.2.2.1 p.2.2.2] 92) = X := ⟨_, rfl⟩
      rw [hW1] at HB0 hrow ⊢
      have b0 : W1.cell? ⟨wr.heap.size, 0, none⟩ = some (.int .i64 p.1) := by rw [cell_of_row _ _ _ _ _ _ hrow]; rfl
      have b1 : W1.cell? ⟨wr.heap.size, 1, none⟩ = some (.slice p.2.1 p.2.2.1 p.2.2.2) := by rw [cell_of_row _ _ _ _ _ _ hrow]; rfl
      obtain ⟨N, hN⟩ : ∃ N, wr.heap.size = N := ⟨_, rfl⟩
      rw [hN] at b0 b1 ⊢
      have HD1 := Aside0.mk (HDI.out.step HB0.out)
      have HBQ := Aside0.mk (HP.out.2.2.1.below HB0.out)
      have c1 := pgo_cell (HD1.out.row HD.out.2)
      clear hW1 hrow z0 z1 hN c0
      by_cases he : ev = 0
      rotate_left
      · obtain ⟨f0, f1, f2, f3⟩ := eq_no he
        have HS := Aside0.mk (show allS d pages l = (ev, dv) by
          have e1 : l.foldl stp (growE d (pages * 4), growD d (pages * 4)) = (l.drop j).foldl stp ((l.take j).foldl stp (growE d (pages * 4), growD d (pages * 4))) := by rw [← List.foldl_append, List.take_append_drop]
          unfold allS
          rw [e1, ← HRI.out]
          exact stp_stop _ he _)
        clear he
        go_wp2_with fail
        go_ret
        rw [HS.out]
        exact ⟨rfl, HD1.out⟩
      subst he
      have HS1 := Aside0.mk (show stp (0, dv) q = (oneE dv q, oneD dv q) from if_pos rfl)
      by_cases hm : p.2.2.1 = 0
      · have f0 : (((p.2.2.1 : Nat) : Int) == 0) = true := beq_iff_eq.2 (by omega)
        have HQ := Aside0.mk (show oneE dv q = syncE dv ∧ oneD dv q = syncD dv from ⟨if_pos (by omega), if_pos (by omega)⟩)
        clear hqn hm
        go_wp2_with (go_at_call 75; refine (sync_h HD1.out HAB.out.1.o0 (by have := HAB.out.1.o1; have := HAB.out.2.2.1; omega) HAB.out.1.fu).mono ?_; rintro e w4 ⟨rfl, hH⟩; (have H4 := Aside0.mk hH); clear hH)
        go_roundg (n - (j + 1))
        case measure => have := hk.out; omega
        case rel => exact ⟨j + 1, (syncE dv, syncD dv), by have := hk.out; exact (show n - (j + 1) + (j + 1) = n by omega), by go_num, rfl, ⟨by rw [HST.out, HS1.out, HQ.out.1, HQ.out.2], H4.out⟩⟩
      · have f0 : (((p.2.2.1 : Nat) : Int) == 0) = false := beq_eq_false_iff_ne.2 (by omega)
        have HQ := Aside0.mk (show oneE dv q = writeE dv (p.1 * 4) q.2 ∧ oneD dv q = writeD dv (p.1 * 4) q.2 from ⟨by rw [HP.out.2.1]; exact if_neg (by omega), by rw [HP.out.2.1]; exact if_neg (by omega)⟩)
        have iw2 : IntKind.i64.wrap (p.1 * 4) = p.1 * 4 := IntWalk.i64_in _ (by have := HAB.out.2.2.2; omega)
        have HMK := Aside0.mk (show dv.row.length + p.2.2.1 ≤ 1000000 by have := HAB.out.1.rl; have := HAB.out.2.1; omega)
        clear hm hqn
        have hbd : Below W1.heap.size W1 W1.drew := below_drew (Below.refl _ _)
        have HDD := Aside0.mk (And.intro (HD1.out.step hbd) (HBQ.out.below hbd))
        have HS0 := Aside0.mk (show W1.drew.cell? ⟨gp, 0, none⟩ = some (.pointer (some ⟨g, 0, none⟩)) ∧ W1.drew.cell? ⟨N, 0, none⟩ = some (.int .i64 p.1) ∧ W1.drew.cell? ⟨N, 1, none⟩ = some (.slice p.2.1 p.2.2.1 p.2.2.2) from ⟨c1, b0, b1⟩)
        clear hbd
        go_upto_region 5 with fail
        refine wp_region_M (fun j => decide (j < 9)) (fun w' => w'.cell? ⟨gp, 0, none⟩ = some (.pointer (some ⟨g, 0, none⟩)) ∧ w'.cell? ⟨N, 0, none⟩ = some (.int .i64 p.1) ∧ w'.cell? ⟨N, 1, none⟩ = some (.slice p.2.1 p.2.2.1 p.2.2.2)) (by kernel_rfl) ?_
        refine wpAnyM_take (i := 0) (v := ?_) (by simp only [List.getElem?_toArray, List.getElem?_cons_succ, List.getElem?_cons_zero]; rfl) (by kernel_rfl) (by kernel_rfl) (by kernel_rfl) (by kernel_rfl) (by exact fun _ _ _ h => h) (Or.inl ⟨by rfl, ?_⟩) HS0.out ?_
        rotate_left
        · (intro w' hSw; (try dsimp only at hSw); go_simp; try with_reducible rfl)
        try simp only [Act.put, List.setIfInBounds_toArray, List.set_cons_zero, List.set_cons_succ]
        refine wpAnyM_take (i := 1) (v := ?_) (by simp only [List.getElem?_toArray, List.getElem?_cons_succ, List.getElem?_cons_zero]; rfl) (by kernel_rfl) (by kernel_rfl) (by kernel_rfl) (by kernel_rfl) (by exact fun _ _ _ h => h) (Or.inl ⟨by rfl, ?_⟩) HS0.out ?_
        rotate_left
        · (intro w' hSw; (try dsimp only at hSw); go_simp; try with_reducible rfl)
        try simp only [Act.put, List.setIfInBounds_toArray, List.set_cons_zero, List.set_cons_succ]
        refine wpAnyM_take (i := 2) (v := ?_) (by simp only [List.getElem?_toArray, List.getElem?_cons_succ, List.getElem?_cons_zero]; rfl) (by kernel_rfl) (by kernel_rfl) (by kernel_rfl) (by kernel_rfl) (by exact fun _ _ _ h => h) (Or.inl ⟨by rfl, ?_⟩) HS0.out ?_
        rotate_left
        · (intro w' hSw; (try dsimp only at hSw); go_simp; try with_reducible rfl)
        try simp only [Act.put, List.setIfInBounds_toArray, List.set_cons_zero, List.set_cons_succ]
        refine wpAnyM_take (i := 3) (v := ?_) (by simp only [List.getElem?_toArray, List.getElem?_cons_succ, List.getElem?_cons_zero]; rfl) (by kernel_rfl) (by kernel_rfl) (by kernel_rfl) (by kernel_rfl) (by exact fun _ _ _ h => h) (Or.inl ⟨by rfl, ?_⟩) HS0.out ?_
        rotate_left
        · (intro w' hSw; (try dsimp only at hSw); go_simp; try with_reducible rfl)
        try simp only [Act.put, List.setIfInBounds_toArray, List.set_cons_zero, List.set_cons_succ]
        refine wpAnyM_take (i := 4) (v := ?_) (by simp only [List.getElem?_toArray, List.getElem?_cons_succ, List.getElem?_cons_zero]; rfl) (by kernel_rfl) (by kernel_rfl) (by kernel_rfl) (by kernel_rfl) (by exact fun _ _ _ h => h) (Or.inl ⟨by rfl, ?_⟩) HS0.out ?_
        rotate_left
        · (intro w' hSw; (try dsimp only at hSw); go_simp; try with_reducible rfl)
        try simp only [Act.put, List.setIfInBounds_toArray, List.set_cons_zero, List.set_cons_succ]
        refine wpAnyM_take (i := 5) (v := ?_) (by simp only [List.getElem?_toArray, List.getElem?_cons_succ, List.getElem?_cons_zero]; rfl) (by kernel_rfl) (by kernel_rfl) (by kernel_rfl) (by kernel_rfl) (by exact fun _ _ _ h => h) (Or.inl ⟨by rfl, ?_⟩) HS0.out ?_
        rotate_left
        · (intro w' hSw; (try dsimp only at hSw); go_simp; try with_reducible rfl)
        try simp only [Act.put, List.setIfInBounds_toArray, List.set_cons_zero, List.set_cons_succ]
        refine wpAnyM_take (i := 6) (v := ?_) (by simp only [List.getElem?_toArray, List.getElem?_cons_succ, List.getElem?_cons_zero]; rfl) (by kernel_rfl) (by kernel_rfl) (by kernel_rfl) (by kernel_rfl) (by exact fun _ _ _ h => h) (Or.inl ⟨by rfl, ?_⟩) HS0.out ?_
        rotate_left
        · (intro w' hSw; (try dsimp only at hSw); go_simp; try with_reducible rfl)
        try simp only [Act.put, List.setIfInBounds_toArray, List.set_cons_zero, List.set_cons_succ]
        refine wpAnyM_take (i := 7) (v := ?_) (by simp only [List.getElem?_toArray, List.getElem?_cons_succ, List.getElem?_cons_zero]; rfl) (by kernel_rfl) (by kernel_rfl) (by kernel_rfl) (by kernel_rfl) (by exact fun _ _ _ h => h) (Or.inl ⟨by rfl, ?_⟩) HS0.out ?_
        rotate_left
        · (intro w' hSw; (try dsimp only at hSw); go_simp; try with_reducible rfl)
        try simp only [Act.put, List.setIfInBounds_toArray, List.set_cons_zero, List.set_cons_succ]
        refine wpAnyM_take (i := 8) (v := ?_) (by simp only [List.getElem?_toArray, List.getElem?_cons_succ, List.getElem?_cons_zero]; rfl) (by kernel_rfl) (by kernel_rfl) (by kernel_rfl) (by kernel_rfl) (by exact fun _ _ _ h => h) (Or.inl ⟨by rfl, ?_⟩) HS0.out ?_
        rotate_left
        · (intro w' hSw; (try dsimp only at hSw); go_simp; try with_reducible rfl)
        try simp only [Act.put, List.setIfInBounds_toArray, List.set_cons_zero, List.set_cons_succ]
        refine wpAnyM_one (i := 9) (by kernel_rfl) (by simp only [List.getElem?_toArray, List.getElem?_cons_succ, List.getElem?_cons_zero]; rfl) ?_
        go_wp2_with (go_at_call 76; refine (write_h HDD.out.1 (p.1 * 4) p.2.1 p.2.2.1 p.2.2.2 q.2 HDD.out.2 HP.out.2.2.2 HMK.out HAB.out.1.o0 (by have := HAB.out.1.o1; have := HAB.out.2.2.1; omega) HAB.out.1.fu).mono ?_; rintro e w4 ⟨rfl, hH⟩; (have H4 := Aside0.mk hH); clear hH)
        try simp only [Act.put, List.setIfInBounds_toArray, List.set_cons_zero, List.set_cons_succ]
        refine wpAnyM_take0 (i := 10) (v := ?_) (by simp only [List.getElem?_toArray, List.getElem?_cons_succ, List.getElem?_cons_zero]; rfl) (by kernel_rfl) (by kernel_rfl) (by kernel_rfl) (by rfl) (by exact fun _ _ _ h => h) (Or.inl ⟨by rfl, ?_⟩) ?_
        rotate_left
        · (intro w' _; go_simp; try with_reducible rfl)
        try simp only [Act.put, List.setIfInBounds_toArray, List.set_cons_zero, List.set_cons_succ]
        refine wpAnyM_done (by kernel_rfl) ?_ _
        go_wp2_with fail
        go_roundg (n - (j + 1))
        case measure => have := hk.out; omega
        case rel => exact ⟨j + 1, (writeE dv (p.1 * 4) q.2, writeD dv (p.1 * 4) q.2), by have := hk.out; exact (show n - (j + 1) + (j + 1) = n by omega), by go_num, rfl, ⟨by rw [HST.out, HS1.out, HQ.out.1, HQ.out.2], H4.out⟩⟩
    · obtain rfl : n = j := by omega
      have d1 : decide ((n : Int) < (n : Int)) = false := by simp
      have hll : l.take n = l := List.take_of_length_le (by have := HR.out.2.2.1.len; have := HR.out.2.2.2; omega)
      have HS := Aside0.mk (show allS d pages l = (ev, dv) by unfold allS; have := hI.out.1; rw [hll] at this; exact this.symm)
      clear hll
      go_wp2_with fail
      go_ret
      rw [HS.out]
      exact ⟨rfl, hI.out.2⟩
end Go.Proofs.Ythhalmjapiempaa
