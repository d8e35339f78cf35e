/- The walk of regaugeref07's HeadOf. -/
import Derived.Test.YtbjfklgmbeaaoaaK4
set_option linter.unusedVariables false
set_option linter.unusedSimpArgs false
namespace Go.Proofs.Ytbjfklgmbeaaoaa
open Go.RowKit

theorem wpAnyM_pair {P : Program} {ops : Array Oper} {Q : Exit → Act → World → Prop} {md : Region.Mode} {S : World → Prop} {p : Nat → Bool} {i k : Nat} {o o2 : Oper} {fuel : Nat} {listed : Array Bool} {a : Act} {w : World} (hr : Region.ready md ops listed = [i, k]) (ho : ops[i]? = some o) (ho2 : ops[k]? = some o2)
    (h : wpList P ops (fun e a' w' => e = .normal ∧ (p i = true → S w') ∧ wpAnyM P md ops Q S p fuel (listed.setIfInBounds i true) a' w') [o] a w)
    (h2 : wpList P ops (fun e a' w' => e = .normal ∧ (p k = true → S w') ∧ wpAnyM P md ops Q S p fuel (listed.setIfInBounds k true) a' w') [o2] a w) : wpAnyM P md ops Q S p (fuel + 1) listed a w := by
  have key : ∀ (j : Nat) (o : Oper), ops[j]? = some o → wpList P ops (fun e a' w' => e = .normal ∧ (p j = true → S w') ∧ wpAnyM P md ops Q S p fuel (listed.setIfInBounds j true) a' w') [o] a w →
      wpOp P ops Q j (fun a' w' => (p j = true → S w') ∧ wpAnyM P md ops Q S p fuel (listed.setIfInBounds j true) a' w') a w := by
    intro j o ho h
    unfold wpOp
    simp only [ho]
    rw [wpList] at h
    split at h
    · rename_i hw
      rw [if_pos hw]
      rcases h with h | ⟨_, _, _, h, _⟩
      · refine .inl ?_
        unfold Oper.wp at *
        generalize (execOp a.eval o).run P w = r at *
        cases r with
        | ok n w' =>
          cases n <;> simp only [Oper.upon] at h ⊢ <;>
            first
              | exact h.2
              | exact Calls.mono h (fun e w'' he => by
                  cases e <;> first | exact he.2 | exact absurd he.1 (by intro h; cases h) | (obtain ⟨_, _, he, _⟩ := he; cases he))
              | exact Rows.mono h (fun u w'' he => he.2)
        | halt x w' => cases x <;> simp only [Oper.upon] at h ⊢ <;> first | exact h | exact absurd h.1 (by intro h; cases h)
      · cases h
    · rename_i hw
      rw [if_neg hw]
      exact h.2
  refine ⟨fun q => (by rw [hr] at q; cases q), fun j hj => ?_⟩
  rw [hr] at hj
  rcases List.mem_cons.1 hj with rfl | hj
  · exact key _ o ho h
  · obtain rfl : j = k := by simpa using hj
    exact key _ o2 ho2 h2
theorem wp_cut1 {P : Program} {c : Code} {a : Act} {w : World} {Q : Exit → Act → World → Prop} (F : Nat → Act) (S : Nat → World → Prop)
    (h : c.wp P (fun x a' w' => match x with | .normal => ∃ M, S M w' ∧ a' = F M | _ => False) a w)
    (hq : ∀ M w', S M w' → Q .normal (F M) w') : c.wp P Q a w := by
  refine Go.wp_mono h (fun e a w q => ?_)
  cases e <;> first | exact absurd q (fun z => z) | skip
  obtain ⟨M, hS, rfl⟩ := q
  exact hq M w hS
theorem add_blk0 (ad : Addr) (j : Nat) : (ad.add j).block = ad.block := by unfold Addr.add; split <;> rfl
theorem rhload {W : World} {g : Nat} {a b c d : Value} (h : W.heap[g]? = some (.cells #[a, b, c, d] 56)) : (loadVar 56 ⟨g, 0, none⟩).run Try.prog W = .ok (.agg #[a, b, c, d]) W :=
  run_loadVar_row W g 56 56 _ (0, 0) _ h Try.underlying56 rfl (by kernel_rfl)
theorem nm7_in {xs : List UInt8} (h : xs.length ≤ 7) : nm7 xs = (leN xs : Int) := if_pos (leN_below h)
theorem nm7_lo {xs : List UInt8} : nm7 xs < 0 ↔ 9223372036854775807 < leN xs := by
  unfold nm7
  split <;> omega
/-- The head's two rows, N (told) and M (made), and the bytes that are read. -/
structure RH (w : World) (N M : Nat) (A : Option Addr) (n c : Nat) (xs : List UInt8) (rN rM : Array Value) (W : World) : Prop where
  rn : W.heap[N]? = some (.cells rN 56)
  rm : W.heap[M]? = some (.cells rM 56)
  ne : N < M
  bs : Bs W A n c xs
  bel : Below w.heap.size w W
set_option maxHeartbeats 4000000 in
set_option maxRecDepth 100000 in
theorem rHeadOf_any (A : Option Addr) (n c : Nat) (xs : List UInt8) (w : World) (hb : Bs w A n c xs) :
    Calls Try.prog 26 #[.slice A n c] w fun e w' => e = .returned (.tuple #[.agg (hV xs), .int .i64 (hE xs)]) ∧ Below w.heap.size w w' := by
  have hxl := hb.len
  have hB0 := (Below.refl _ w).alloc (Nat.le_refl _) (.cells #[.int .i64 0, .int .i64 0, .int .i64 0, .int .i64 0] 56)
  have hlim := hb.lim
  have hcap := hb.cap
  have hnc := hb.le
  have H0 := Aside0.mk (And.intro (hb.below hB0) (And.intro (heap_alloc_new w (.cells #[.int .i64 0, .int .i64 0, .int .i64 0, .int .i64 0] 56)) hB0))
  have HX := Aside0.mk hb
  have HL := Aside0.mk hxl
  clear hb hB0 hxl
  go_enter Try.func26, Try.ntmps26
  go_upto_region 1 with fail
  obtain ⟨w0, hw0⟩ : ∃ X, w.alloc (.cells #[.int .i64 0, .int .i64 0, .int .i64 0, .int .i64 0] 56) = X := ⟨_, rfl⟩
  obtain ⟨N, hN⟩ : ∃ X, w.heap.size = X := ⟨_, rfl⟩
  rw [hw0, hN] at H0
  rw [hw0, hN]
  have HN := Aside0.mk hN
  have hbd : Below w0.heap.size w0 w0.drew := below_drew (Below.refl _ _)
  have H1 := Aside0.mk (And.intro (H0.out.1.below hbd) (And.intro ((hbd.block _ (Array.getElem?_eq_some_iff.1 H0.out.2.1).1).trans H0.out.2.1) (show Below w.heap.size w w0.drew from below_then (by rw [hN]; exact H0.out.2.2) (by have := H0.out.2.2.size; exact this) hbd)))
  obtain ⟨u0, hu0⟩ : ∃ X, w0.drew = X := ⟨_, rfl⟩
  rw [hu0] at H1
  clear hw0 hN hbd
  by_cases q4 : n < 4
  case pos =>
    have g0 : decide ((n : Int) < 4) = true := decide_eq_true (by omega)
    have HS := Aside0.mk (show ¬ (4 ≤ xs.length ∧ knownB (hK xs) (hG xs) = true) from fun q => by have := HL.out; omega)
    clear q4
    refine wp_region_M (fun j => decide (j < 4)) (fun w' => True) (by kernel_rfl) ?_
    rw [hu0]
    clear hu0
    refine wpAnyM_take (i := 0) (v := ?_) (by simp only [List.getElem?_toArray, List.getElem?_cons_succ, List.getElem?_cons_zero]; rfl) (by kernel_rfl) (by kernel_rfl) (by kernel_rfl) (by kernel_rfl) (by exact fun _ _ _ h => h) (Or.inl ⟨by rfl, ?_⟩) trivial ?_
    rotate_left
    · (intro w' hSw; (try dsimp only at hSw); go_simp; try with_reducible rfl)
    try simp only [Act.put, List.setIfInBounds_toArray, List.set_cons_zero, List.set_cons_succ]
    refine wpAnyM_take (i := 1) (v := ?_) (by simp only [List.getElem?_toArray, List.getElem?_cons_succ, List.getElem?_cons_zero]; rfl) (by kernel_rfl) (by kernel_rfl) (by kernel_rfl) (by kernel_rfl) (by exact fun _ _ _ h => h) (Or.inl ⟨by rfl, ?_⟩) trivial ?_
    rotate_left
    · (intro w' hSw; (try dsimp only at hSw); go_simp; try with_reducible rfl)
    try simp only [Act.put, List.setIfInBounds_toArray, List.set_cons_zero, List.set_cons_succ]
    refine wpAnyM_take (i := 2) (v := ?_) (by simp only [List.getElem?_toArray, List.getElem?_cons_succ, List.getElem?_cons_zero]; rfl) (by kernel_rfl) (by kernel_rfl) (by kernel_rfl) (by kernel_rfl) (by exact fun _ _ _ h => h) (Or.inl ⟨by rfl, ?_⟩) trivial ?_
    rotate_left
    · (intro w' hSw; (try dsimp only at hSw); go_simp; try with_reducible rfl)
    try simp only [Act.put, List.setIfInBounds_toArray, List.set_cons_zero, List.set_cons_succ]
    refine wpAnyM_take (i := 3) (v := ?_) (by simp only [List.getElem?_toArray, List.getElem?_cons_succ, List.getElem?_cons_zero]; rfl) (by kernel_rfl) (by kernel_rfl) (by kernel_rfl) (by kernel_rfl) (by exact fun _ _ _ h => h) (Or.inl ⟨by rfl, ?_⟩) trivial ?_
    rotate_left
    · (intro w' hSw; (try dsimp only at hSw); go_simp; try with_reducible rfl)
    try simp only [Act.put, List.setIfInBounds_toArray, List.set_cons_zero, List.set_cons_succ]
    refine wpAnyM_take0 (i := 4) (v := undef) (by simp only [List.getElem?_toArray, List.getElem?_cons_succ, List.getElem?_cons_zero]; rfl) (by kernel_rfl) (by kernel_rfl) (by kernel_rfl) (by rfl) (by exact fun _ _ _ h => h) (Or.inr ⟨by rfl, rfl⟩) ?_
    try simp only [Act.put, List.setIfInBounds_toArray, List.set_cons_zero, List.set_cons_succ]
    refine wpAnyM_take0 (i := 5) (v := undef) (by simp only [List.getElem?_toArray, List.getElem?_cons_succ, List.getElem?_cons_zero]; rfl) (by kernel_rfl) (by kernel_rfl) (by kernel_rfl) (by rfl) (by exact fun _ _ _ h => h) (Or.inr ⟨by rfl, rfl⟩) ?_
    try simp only [Act.put, List.setIfInBounds_toArray, List.set_cons_zero, List.set_cons_succ]
    refine wpAnyM_take0 (i := 6) (v := undef) (by simp only [List.getElem?_toArray, List.getElem?_cons_succ, List.getElem?_cons_zero]; rfl) (by kernel_rfl) (by kernel_rfl) (by kernel_rfl) (by rfl) (by exact fun _ _ _ h => h) (Or.inr ⟨by rfl, rfl⟩) ?_
    try simp only [Act.put, List.setIfInBounds_toArray, List.set_cons_zero, List.set_cons_succ]
    refine wpAnyM_take0 (i := 7) (v := undef) (by simp only [List.getElem?_toArray, List.getElem?_cons_succ, List.getElem?_cons_zero]; rfl) (by kernel_rfl) (by kernel_rfl) (by kernel_rfl) (by rfl) (by exact fun _ _ _ h => h) (Or.inr ⟨by rfl, rfl⟩) ?_
    try simp only [Act.put, List.setIfInBounds_toArray, List.set_cons_zero, List.set_cons_succ]
    refine wpAnyM_take0 (i := 8) (v := undef) (by simp only [List.getElem?_toArray, List.getElem?_cons_succ, List.getElem?_cons_zero]; rfl) (by kernel_rfl) (by kernel_rfl) (by kernel_rfl) (by rfl) (by exact fun _ _ _ h => h) (Or.inr ⟨by rfl, rfl⟩) ?_
    try simp only [Act.put, List.setIfInBounds_toArray, List.set_cons_zero, List.set_cons_succ]
    refine wpAnyM_take0 (i := 9) (v := undef) (by simp only [List.getElem?_toArray, List.getElem?_cons_succ, List.getElem?_cons_zero]; rfl) (by kernel_rfl) (by kernel_rfl) (by kernel_rfl) (by rfl) (by exact fun _ _ _ h => h) (Or.inr ⟨by rfl, rfl⟩) ?_
    try simp only [Act.put, List.setIfInBounds_toArray, List.set_cons_zero, List.set_cons_succ]
    refine wpAnyM_take0 (i := 10) (v := undef) (by simp only [List.getElem?_toArray, List.getElem?_cons_succ, List.getElem?_cons_zero]; rfl) (by kernel_rfl) (by kernel_rfl) (by kernel_rfl) (by rfl) (by exact fun _ _ _ h => h) (Or.inr ⟨by rfl, rfl⟩) ?_
    try simp only [Act.put, List.setIfInBounds_toArray, List.set_cons_zero, List.set_cons_succ]
    refine wpAnyM_take0 (i := 11) (v := undef) (by simp only [List.getElem?_toArray, List.getElem?_cons_succ, List.getElem?_cons_zero]; rfl) (by kernel_rfl) (by kernel_rfl) (by kernel_rfl) (by rfl) (by exact fun _ _ _ h => h) (Or.inr ⟨by rfl, rfl⟩) ?_
    try simp only [Act.put, List.setIfInBounds_toArray, List.set_cons_zero, List.set_cons_succ]
    refine wpAnyM_take0 (i := 12) (v := undef) (by simp only [List.getElem?_toArray, List.getElem?_cons_succ, List.getElem?_cons_zero]; rfl) (by kernel_rfl) (by kernel_rfl) (by kernel_rfl) (by rfl) (by exact fun _ _ _ h => h) (Or.inr ⟨by rfl, rfl⟩) ?_
    try simp only [Act.put, List.setIfInBounds_toArray, List.set_cons_zero, List.set_cons_succ]
    refine wpAnyM_take0 (i := 13) (v := undef) (by simp only [List.getElem?_toArray, List.getElem?_cons_succ, List.getElem?_cons_zero]; rfl) (by kernel_rfl) (by kernel_rfl) (by kernel_rfl) (by rfl) (by exact fun _ _ _ h => h) (Or.inr ⟨by rfl, rfl⟩) ?_
    try simp only [Act.put, List.setIfInBounds_toArray, List.set_cons_zero, List.set_cons_succ]
    refine wpAnyM_take0 (i := 14) (v := ?_) (by simp only [List.getElem?_toArray, List.getElem?_cons_succ, List.getElem?_cons_zero]; rfl) (by kernel_rfl) (by kernel_rfl) (by kernel_rfl) (by rfl) (by exact fun _ _ _ h => h) (Or.inl ⟨by rfl, ?_⟩) ?_
    rotate_left
    · (intro w' _; go_simp; try with_reducible rfl)
    try simp only [Act.put, List.setIfInBounds_toArray, List.set_cons_zero, List.set_cons_succ]
    refine wpAnyM_done (by kernel_rfl) ?_ _
    go_upto_region 2 with fail
    have hrN := H1.out.2.1
    obtain ⟨x0, x1, x2, x3⟩ := item_cells2 hrN
    have yN := fun j => Go.Joins.unfrozen_of_block hrN j
    have hD := rhload (row4_set (.int .i64 0) (.int .i64 0) (.int .i64 0) (.int .i64 0) hrN)
    have HBF := Aside0.mk ((only_set4 (W := u0) (g := N) (.int .i64 0) (.int .i64 0) (.int .i64 0) (.int .i64 0)).below H1.out.2.2 (Nat.le_of_eq HN.out) (Nat.le_refl _))
    have HE := Aside0.mk (show hE xs = 70 ∧ hV xs = #[.int .i64 0, .int .i64 0, .int .i64 0, .int .i64 0] from ⟨if_neg HS.out, by unfold hV; rw [if_neg (by unfold hE; rw [if_neg HS.out]; decide)]⟩)
    have HDL := Aside0.mk hD
    clear hD hrN
    go_wp2_with fail
    have hD := HDL.out
    refine bodyPost_ret (v := .tuple #[.agg #[.int .i64 0, .int .i64 0, .int .i64 0, .int .i64 0], .int .i64 70]) (by simp [results, Try.results26, asAddr, hD]) rfl ?_
    rw [HE.out.1, HE.out.2]
    exact ⟨rfl, HBF.out⟩
  case neg =>
    have g0 : decide ((n : Int) < 4) = false := decide_eq_false (by omega)
    have HX4 := Aside0.mk (show 4 ≤ xs.length by have := HL.out; omega)
    obtain ⟨ad, rfl, hc⟩ := H1.out.1.cells (by omega)
    have c0 : u0.cell? ad = some (.int .u8 (b8 xs 0)) := hc 0 (by omega)
    have c1 : u0.cell? ⟨ad.block, ad.off + 1, none⟩ = some (.int .u8 (b8 xs 1)) := hc 1 (by omega)
    have HC := Aside0.mk (And.intro c0 c1)
    have hn0 : 0 < n := by omega
    have hn1 : 1 < n := by omega
    have hn2 : (1 : Int) < (n : Int) := by omega
    have hw1 : wrap64 (b8 xs 0) = b8 xs 0 := IntWalk.wrap64_in _ (by have := b8_lo xs 0; have := b8_hi xs 0; omega)
    have hw2 : wrap64 (b8 xs 1) = b8 xs 1 := IntWalk.wrap64_in _ (by have := b8_lo xs 1; have := b8_hi xs 1; omega)
    have hw3 : IntKind.i64.wrap (b8 xs 0) = b8 xs 0 := IntWalk.i64_in _ (by have := b8_lo xs 0; have := b8_hi xs 0; omega)
    have hw4 : IntKind.i64.wrap (b8 xs 1) = b8 xs 1 := IntWalk.i64_in _ (by have := b8_lo xs 1; have := b8_hi xs 1; omega)
    clear hc c0 c1
    obtain ⟨kb, hkb⟩ : ∃ b, knownB (b8 xs 0) (b8 xs 1) = b := ⟨_, rfl⟩
    have HK := Aside0.mk hkb
    refine wp_region_M (fun j => decide (j < 15)) (fun w' => w'.cell? ad = some (.int .u8 (b8 xs 0)) ∧ w'.cell? ⟨ad.block, ad.off + 1, none⟩ = some (.int .u8 (b8 xs 1))) (by kernel_rfl) ?_
    rw [hu0]
    clear hu0
    refine wpAnyM_take (i := 0) (v := ?_) (by simp only [List.getElem?_toArray, List.getElem?_cons_succ, List.getElem?_cons_zero]; rfl) (by kernel_rfl) (by kernel_rfl) (by kernel_rfl) (by kernel_rfl) (by exact fun _ _ _ h => h) (Or.inl ⟨by rfl, ?_⟩) HC.out ?_
    rotate_left
    · (intro w' hSw; (try dsimp only at hSw); go_simp; try with_reducible rfl)
    try simp only [Act.put, List.setIfInBounds_toArray, List.set_cons_zero, List.set_cons_succ]
    refine wpAnyM_take (i := 1) (v := ?_) (by simp only [List.getElem?_toArray, List.getElem?_cons_succ, List.getElem?_cons_zero]; rfl) (by kernel_rfl) (by kernel_rfl) (by kernel_rfl) (by kernel_rfl) (by exact fun _ _ _ h => h) (Or.inl ⟨by rfl, ?_⟩) HC.out ?_
    rotate_left
    · (intro w' hSw; (try dsimp only at hSw); go_simp; try with_reducible rfl)
    try simp only [Act.put, List.setIfInBounds_toArray, List.set_cons_zero, List.set_cons_succ]
    refine wpAnyM_take (i := 2) (v := ?_) (by simp only [List.getElem?_toArray, List.getElem?_cons_succ, List.getElem?_cons_zero]; rfl) (by kernel_rfl) (by kernel_rfl) (by kernel_rfl) (by kernel_rfl) (by exact fun _ _ _ h => h) (Or.inl ⟨by rfl, ?_⟩) HC.out ?_
    rotate_left
    · (intro w' hSw; (try dsimp only at hSw); go_simp; try with_reducible rfl)
    try simp only [Act.put, List.setIfInBounds_toArray, List.set_cons_zero, List.set_cons_succ]
    refine wpAnyM_take (i := 3) (v := ?_) (by simp only [List.getElem?_toArray, List.getElem?_cons_succ, List.getElem?_cons_zero]; rfl) (by kernel_rfl) (by kernel_rfl) (by kernel_rfl) (by kernel_rfl) (by exact fun _ _ _ h => h) (Or.inl ⟨by rfl, ?_⟩) HC.out ?_
    rotate_left
    · (intro w' hSw; (try dsimp only at hSw); go_simp; try with_reducible rfl)
    try simp only [Act.put, List.setIfInBounds_toArray, List.set_cons_zero, List.set_cons_succ]
    refine wpAnyM_take (i := 4) (v := ?_) (by simp only [List.getElem?_toArray, List.getElem?_cons_succ, List.getElem?_cons_zero]; rfl) (by kernel_rfl) (by kernel_rfl) (by kernel_rfl) (by kernel_rfl) (by exact fun _ _ _ h => h) (Or.inl ⟨by rfl, ?_⟩) HC.out ?_
    rotate_left
    · (intro w' hSw; (try dsimp only at hSw); go_simp; try with_reducible rfl)
    try simp only [Act.put, List.setIfInBounds_toArray, List.set_cons_zero, List.set_cons_succ]
    refine wpAnyM_take (i := 5) (v := ?_) (by simp only [List.getElem?_toArray, List.getElem?_cons_succ, List.getElem?_cons_zero]; rfl) (by kernel_rfl) (by kernel_rfl) (by kernel_rfl) (by kernel_rfl) (by exact fun _ _ _ h => h) (Or.inl ⟨by rfl, ?_⟩) HC.out ?_
    rotate_left
    · (intro w' hSw; (try dsimp only at hSw); go_simp; try with_reducible rfl)
    try simp only [Act.put, List.setIfInBounds_toArray, List.set_cons_zero, List.set_cons_succ]
    refine wpAnyM_take (i := 6) (v := ?_) (by simp only [List.getElem?_toArray, List.getElem?_cons_succ, List.getElem?_cons_zero]; rfl) (by kernel_rfl) (by kernel_rfl) (by kernel_rfl) (by kernel_rfl) (by exact fun _ _ _ h => h) (Or.inl ⟨by rfl, ?_⟩) HC.out ?_
    rotate_left
    · (intro w' hSw; (try dsimp only at hSw); go_simp; try with_reducible rfl)
    try simp only [Act.put, List.setIfInBounds_toArray, List.set_cons_zero, List.set_cons_succ]
    refine wpAnyM_take (i := 7) (v := ?_) (by simp only [List.getElem?_toArray, List.getElem?_cons_succ, List.getElem?_cons_zero]; rfl) (by kernel_rfl) (by kernel_rfl) (by kernel_rfl) (by kernel_rfl) (by exact fun _ _ _ h => h) (Or.inl ⟨by rfl, ?_⟩) HC.out ?_
    rotate_left
    · (intro w' hSw; (try dsimp only at hSw); go_simp; try with_reducible rfl)
    try simp only [Act.put, List.setIfInBounds_toArray, List.set_cons_zero, List.set_cons_succ]
    refine wpAnyM_take (i := 8) (v := ?_) (by simp only [List.getElem?_toArray, List.getElem?_cons_succ, List.getElem?_cons_zero]; rfl) (by kernel_rfl) (by kernel_rfl) (by kernel_rfl) (by kernel_rfl) (by exact fun _ _ _ h => h) (Or.inl ⟨by rfl, ?_⟩) HC.out ?_
    rotate_left
    · (intro w' hSw; (try dsimp only at hSw); go_simp; try with_reducible rfl)
    try simp only [Act.put, List.setIfInBounds_toArray, List.set_cons_zero, List.set_cons_succ]
    refine wpAnyM_take (i := 9) (v := ?_) (by simp only [List.getElem?_toArray, List.getElem?_cons_succ, List.getElem?_cons_zero]; rfl) (by kernel_rfl) (by kernel_rfl) (by kernel_rfl) (by kernel_rfl) (by exact fun _ _ _ h => h) (Or.inl ⟨by rfl, ?_⟩) HC.out ?_
    rotate_left
    · (intro w' hSw; (try dsimp only at hSw); go_simp; try with_reducible rfl)
    try simp only [Act.put, List.setIfInBounds_toArray, List.set_cons_zero, List.set_cons_succ]
    refine wpAnyM_take (i := 10) (v := ?_) (by simp only [List.getElem?_toArray, List.getElem?_cons_succ, List.getElem?_cons_zero]; rfl) (by kernel_rfl) (by kernel_rfl) (by kernel_rfl) (by kernel_rfl) (by exact fun _ _ _ h => h) (Or.inl ⟨by rfl, ?_⟩) HC.out ?_
    rotate_left
    · (intro w' hSw; (try dsimp only at hSw); go_simp; try with_reducible rfl)
    try simp only [Act.put, List.setIfInBounds_toArray, List.set_cons_zero, List.set_cons_succ]
    refine wpAnyM_take (i := 11) (v := ?_) (by simp only [List.getElem?_toArray, List.getElem?_cons_succ, List.getElem?_cons_zero]; rfl) (by kernel_rfl) (by kernel_rfl) (by kernel_rfl) (by kernel_rfl) (by exact fun _ _ _ h => h) (Or.inl ⟨by rfl, ?_⟩) HC.out ?_
    rotate_left
    · (intro w' hSw; (try dsimp only at hSw); go_simp; try with_reducible rfl)
    try simp only [Act.put, List.setIfInBounds_toArray, List.set_cons_zero, List.set_cons_succ]
    refine wpAnyM_one (i := 12) (by kernel_rfl) (by simp only [List.getElem?_toArray, List.getElem?_cons_succ, List.getElem?_cons_zero]; rfl) ?_
    go_wp2_with (go_at_call 65; refine (rknown7_any (b8 xs 0) (b8 xs 1) u0).mono ?_; rintro e w9 ⟨rfl, rfl⟩; rw [HK.out])
    refine ⟨HC.out, ?_⟩
    try simp only [Act.put, List.setIfInBounds_toArray, List.set_cons_zero, List.set_cons_succ]
    cases kb with
    | false =>
      clear hkb
      refine wpAnyM_take (i := 13) (v := ?_) (by simp only [List.getElem?_toArray, List.getElem?_cons_succ, List.getElem?_cons_zero]; rfl) (by kernel_rfl) (by kernel_rfl) (by kernel_rfl) (by kernel_rfl) (by exact fun _ _ _ h => h) (Or.inl ⟨by rfl, ?_⟩) HC.out ?_
      rotate_left
      · (intro w' hSw; (try dsimp only at hSw); go_simp; try with_reducible rfl)
      try simp only [Act.put, List.setIfInBounds_toArray, List.set_cons_zero, List.set_cons_succ]
      refine wpAnyM_take (i := 14) (v := ?_) (by simp only [List.getElem?_toArray, List.getElem?_cons_succ, List.getElem?_cons_zero]; rfl) (by kernel_rfl) (by kernel_rfl) (by kernel_rfl) (by kernel_rfl) (by exact fun _ _ _ h => h) (Or.inl ⟨by rfl, ?_⟩) HC.out ?_
      rotate_left
      · (intro w' hSw; (try dsimp only at hSw); go_simp; try with_reducible rfl)
      try simp only [Act.put, List.setIfInBounds_toArray, List.set_cons_zero, List.set_cons_succ]
      refine wpAnyM_done (by kernel_rfl) ?_ _
      have HS := Aside0.mk (show ¬ (4 ≤ xs.length ∧ knownB (hK xs) (hG xs) = true) from fun q => by have h1 := HK.out; have h2 := q.2; unfold hK hG at h2; rw [h1] at h2; cases h2)
      go_upto_region 2 with fail
      have hrN := H1.out.2.1
      obtain ⟨x0, x1, x2, x3⟩ := item_cells2 hrN
      have yN := fun j => Go.Joins.unfrozen_of_block hrN j
      have hD := rhload (row4_set (.int .i64 0) (.int .i64 0) (.int .i64 0) (.int .i64 0) hrN)
      have HBF := Aside0.mk ((only_set4 (W := u0) (g := N) (.int .i64 0) (.int .i64 0) (.int .i64 0) (.int .i64 0)).below H1.out.2.2 (Nat.le_of_eq HN.out) (Nat.le_refl _))
      have HE := Aside0.mk (show hE xs = 70 ∧ hV xs = #[.int .i64 0, .int .i64 0, .int .i64 0, .int .i64 0] from ⟨if_neg HS.out, by unfold hV; rw [if_neg (by unfold hE; rw [if_neg HS.out]; decide)]⟩)
      have HDL := Aside0.mk hD
      clear hD hrN
      go_wp2_with fail
      have hD := HDL.out
      refine bodyPost_ret (v := .tuple #[.agg #[.int .i64 0, .int .i64 0, .int .i64 0, .int .i64 0], .int .i64 70]) (by simp [results, Try.results26, asAddr, hD]) rfl ?_
      rw [HE.out.1, HE.out.2]
      exact ⟨rfl, HBF.out⟩
    | true =>
      have hgb : 1 ≤ b8 xs 1 ∧ b8 xs 1 ≤ 3 := by
        unfold knownB at hkb
        rw [Bool.and_eq_true] at hkb
        exact of_decide_eq_true hkb.2
      clear hkb
      refine wpAnyM_take (i := 13) (v := ?_) (by simp only [List.getElem?_toArray, List.getElem?_cons_succ, List.getElem?_cons_zero]; rfl) (by kernel_rfl) (by kernel_rfl) (by kernel_rfl) (by kernel_rfl) (by exact fun _ _ _ h => h) (Or.inl ⟨by rfl, ?_⟩) HC.out ?_
      rotate_left
      · (intro w' hSw; (try dsimp only at hSw); go_simp; try with_reducible rfl)
      try simp only [Act.put, List.setIfInBounds_toArray, List.set_cons_zero, List.set_cons_succ]
      refine wpAnyM_take (i := 14) (v := ?_) (by simp only [List.getElem?_toArray, List.getElem?_cons_succ, List.getElem?_cons_zero]; rfl) (by kernel_rfl) (by kernel_rfl) (by kernel_rfl) (by kernel_rfl) (by exact fun _ _ _ h => h) (Or.inl ⟨by rfl, ?_⟩) HC.out ?_
      rotate_left
      · (intro w' hSw; (try dsimp only at hSw); go_simp; try with_reducible rfl)
      try simp only [Act.put, List.setIfInBounds_toArray, List.set_cons_zero, List.set_cons_succ]
      refine wpAnyM_done (by kernel_rfl) ?_ _
      have s24 := fun W => sl8_lh W (some ad) n c .i64 .i64 2 4 (by omega) (by omega) (by omega)
      have HB2 := Aside0.mk (show ∀ W : World, Bs W (some ad) n c xs → Bs W (cutA (some ad) c 2) 2 (c - 2) ((xs.drop 2).take 2) from fun W h => by have := (h.drop 2 (by omega)).take 2 (by omega); exact this)
      have HV2 := Aside0.mk (show nm7 ((xs.drop 2).take 2) = hC xs from nm7_in (by rw [List.length_take]; omega))
      obtain ⟨k0, hk0⟩ : ∃ x, b8 xs 0 = x := ⟨_, rfl⟩
      obtain ⟨g, hg⟩ : ∃ x, b8 xs 1 = x := ⟨_, rfl⟩
      obtain ⟨ct, hct⟩ : ∃ x, hC xs = x := ⟨_, rfl⟩
      have HKG := Aside0.mk (And.intro hk0 (And.intro hg hct))
      rw [hk0, hg] at HC
      rw [hct] at HV2
      rw [hk0] at hw1 hw3
      rw [hg] at hw2 hw4 hgb
      rw [hk0, hg]
      clear hk0 hg hct g0 q4
      go_upto_region 3 with fail
      apply wp_cut1 (S := fun M w' => RH w N M (some ad) n c xs #[.int .i64 0, .int .i64 0, .int .i64 0, .int .i64 0] #[.int .i64 k0, .int .i64 g, .int .i64 ct, .int .i64 0] w')
      case h =>
        have hbd : Below u0.heap.size u0 u0.drew := below_drew (Below.refl _ _)
        have T1 := Aside0.mk (And.intro (H1.out.1.below hbd) (And.intro ((hbd.block _ (Array.getElem?_eq_some_iff.1 H1.out.2.1).1).trans H1.out.2.1) (below_then H1.out.2.2 H1.out.2.2.size hbd)))
        have D1 := Aside0.mk (show u0.drew.cell? ad = some (.int .u8 k0) ∧ u0.drew.cell? ⟨ad.block, ad.off + 1, none⟩ = some (.int .u8 g) from HC.out)
        obtain ⟨u1, hu1⟩ : ∃ X, u0.drew = X := ⟨_, rfl⟩
        rw [hu1] at T1 D1
        have hz := (Below.refl _ u1).alloc (Nat.le_refl _) (.cells #[.int .i64 0, .int .i64 0, .int .i64 0, .int .i64 0] 56)
        have D2 := Aside0.mk (show (u1.alloc (.cells #[.int .i64 0, .int .i64 0, .int .i64 0, .int .i64 0] 56)).cell? ad = some (.int .u8 k0) ∧ (u1.alloc (.cells #[.int .i64 0, .int .i64 0, .int .i64 0, .int .i64 0] 56)).cell? ⟨ad.block, ad.off + 1, none⟩ = some (.int .u8 g) from ⟨cell_below hz D1.out.1, cell_below hz D1.out.2⟩)
        have T2 := Aside0.mk (show RH w N u1.heap.size (some ad) n c xs #[.int .i64 0, .int .i64 0, .int .i64 0, .int .i64 0] #[.int .i64 0, .int .i64 0, .int .i64 0, .int .i64 0] (u1.alloc (.cells #[.int .i64 0, .int .i64 0, .int .i64 0, .int .i64 0] 56)) from ⟨(hz.block _ (Array.getElem?_eq_some_iff.1 T1.out.2.1).1).trans T1.out.2.1, heap_alloc_new u1 (.cells #[.int .i64 0, .int .i64 0, .int .i64 0, .int .i64 0] 56), (Array.getElem?_eq_some_iff.1 T1.out.2.1).1, T1.out.1.below hz, below_then T1.out.2.2 T1.out.2.2.size hz⟩)
        clear hz
        refine wp_region_M (fun j => decide (j < 14)) (fun w' => w'.cell? ad = some (.int .u8 k0) ∧ w'.cell? ⟨ad.block, ad.off + 1, none⟩ = some (.int .u8 g)) (by kernel_rfl) ?_
        rw [hu1]
        refine wpAnyM_take (i := 0) (v := ?_) (by simp only [List.getElem?_toArray, List.getElem?_cons_succ, List.getElem?_cons_zero]; rfl) (by kernel_rfl) (by kernel_rfl) (by kernel_rfl) (by kernel_rfl) (by exact fun _ _ _ h => h) (Or.inl ⟨by rfl, ?_⟩) D1.out ?_
        rotate_left
        · (intro w' hSw; (try dsimp only at hSw); go_simp; try with_reducible rfl)
        try simp only [Act.put, List.setIfInBounds_toArray, List.set_cons_zero, List.set_cons_succ]
        refine wpAnyM_take (i := 1) (v := ?_) (by simp only [List.getElem?_toArray, List.getElem?_cons_succ, List.getElem?_cons_zero]; rfl) (by kernel_rfl) (by kernel_rfl) (by kernel_rfl) (by kernel_rfl) (by exact fun _ _ _ h => h) (Or.inl ⟨by rfl, ?_⟩) D1.out ?_
        rotate_left
        · (intro w' hSw; (try dsimp only at hSw); go_simp; try with_reducible rfl)
        try simp only [Act.put, List.setIfInBounds_toArray, List.set_cons_zero, List.set_cons_succ]
        refine wpAnyM_take (i := 2) (v := ?_) (by simp only [List.getElem?_toArray, List.getElem?_cons_succ, List.getElem?_cons_zero]; rfl) (by kernel_rfl) (by kernel_rfl) (by kernel_rfl) (by kernel_rfl) (by exact fun _ _ _ h => h) (Or.inl ⟨by rfl, ?_⟩) D1.out ?_
        rotate_left
        · (intro w' hSw; (try dsimp only at hSw); go_simp; try with_reducible rfl)
        try simp only [Act.put, List.setIfInBounds_toArray, List.set_cons_zero, List.set_cons_succ]
        refine wpAnyM_take (i := 3) (v := ?_) (by simp only [List.getElem?_toArray, List.getElem?_cons_succ, List.getElem?_cons_zero]; rfl) (by kernel_rfl) (by kernel_rfl) (by kernel_rfl) (by kernel_rfl) (by exact fun _ _ _ h => h) (Or.inl ⟨by rfl, ?_⟩) D1.out ?_
        rotate_left
        · (intro w' hSw; (try dsimp only at hSw); go_simp; try with_reducible rfl)
        try simp only [Act.put, List.setIfInBounds_toArray, List.set_cons_zero, List.set_cons_succ]
        refine wpAnyM_take (i := 4) (v := ?_) (by simp only [List.getElem?_toArray, List.getElem?_cons_succ, List.getElem?_cons_zero]; rfl) (by kernel_rfl) (by kernel_rfl) (by kernel_rfl) (by kernel_rfl) (by exact fun _ _ _ h => h) (Or.inl ⟨by rfl, ?_⟩) D1.out ?_
        rotate_left
        · (intro w' hSw; (try dsimp only at hSw); go_simp; try with_reducible rfl)
        try simp only [Act.put, List.setIfInBounds_toArray, List.set_cons_zero, List.set_cons_succ]
        refine wpAnyM_take (i := 5) (v := ?_) (by simp only [List.getElem?_toArray, List.getElem?_cons_succ, List.getElem?_cons_zero]; rfl) (by kernel_rfl) (by kernel_rfl) (by kernel_rfl) (by kernel_rfl) (by exact fun _ _ _ h => h) (Or.inl ⟨by rfl, ?_⟩) D1.out ?_
        rotate_left
        · (intro w' hSw; (try dsimp only at hSw); go_simp; try with_reducible rfl)
        try simp only [Act.put, List.setIfInBounds_toArray, List.set_cons_zero, List.set_cons_succ]
        refine wpAnyM_take (i := 6) (v := ?_) (by simp only [List.getElem?_toArray, List.getElem?_cons_succ, List.getElem?_cons_zero]; rfl) (by kernel_rfl) (by kernel_rfl) (by kernel_rfl) (by kernel_rfl) (by exact fun _ _ _ h => h) (Or.inl ⟨by rfl, ?_⟩) D1.out ?_
        rotate_left
        · (intro w' hSw; (try dsimp only at hSw); go_simp; try with_reducible rfl)
        try simp only [Act.put, List.setIfInBounds_toArray, List.set_cons_zero, List.set_cons_succ]
        refine wpAnyM_take (i := 7) (v := ?_) (by simp only [List.getElem?_toArray, List.getElem?_cons_succ, List.getElem?_cons_zero]; rfl) (by kernel_rfl) (by kernel_rfl) (by kernel_rfl) (by kernel_rfl) (by exact fun _ _ _ h => h) (Or.inl ⟨by rfl, ?_⟩) D1.out ?_
        rotate_left
        · (intro w' hSw; (try dsimp only at hSw); go_simp; try with_reducible rfl)
        try simp only [Act.put, List.setIfInBounds_toArray, List.set_cons_zero, List.set_cons_succ]
        refine wpAnyM_take (i := 8) (v := ?_) (by simp only [List.getElem?_toArray, List.getElem?_cons_succ, List.getElem?_cons_zero]; rfl) (by kernel_rfl) (by kernel_rfl) (by kernel_rfl) (by kernel_rfl) (by exact fun _ _ _ h => h) (Or.inl ⟨by rfl, ?_⟩) D1.out ?_
        rotate_left
        · (intro w' hSw; (try dsimp only at hSw); go_simp; try with_reducible rfl)
        try simp only [Act.put, List.setIfInBounds_toArray, List.set_cons_zero, List.set_cons_succ]
        refine wpAnyM_take (i := 9) (v := ?_) (by simp only [List.getElem?_toArray, List.getElem?_cons_succ, List.getElem?_cons_zero]; rfl) (by kernel_rfl) (by kernel_rfl) (by kernel_rfl) (by kernel_rfl) (by exact fun _ _ _ h => h) (Or.inl ⟨by rfl, ?_⟩) D1.out ?_
        rotate_left
        · (intro w' hSw; (try dsimp only at hSw); go_simp; try with_reducible rfl)
        try simp only [Act.put, List.setIfInBounds_toArray, List.set_cons_zero, List.set_cons_succ]
        refine wpAnyM_pair (i := 10) (k := 12) (by kernel_rfl) (by simp only [List.getElem?_toArray, List.getElem?_cons_succ, List.getElem?_cons_zero]; rfl) (by simp only [List.getElem?_toArray, List.getElem?_cons_succ, List.getElem?_cons_zero]; rfl) ?_ ?_
        · skip
          go_wp2_with (go_at_call 66; refine (number7_any _ 2 (c - 2) _ u1 (HB2.out _ T1.out.1) (by omega)).mono ?_; rintro e w9 ⟨rfl, rfl⟩; rw [HV2.out])
          refine ⟨D1.out, ?_⟩
          try simp only [Act.put, List.setIfInBounds_toArray, List.set_cons_zero, List.set_cons_succ]
          refine wpAnyM_take (i := 11) (v := ?_) (by simp only [List.getElem?_toArray, List.getElem?_cons_succ, List.getElem?_cons_zero]; rfl) (by kernel_rfl) (by kernel_rfl) (by kernel_rfl) (by kernel_rfl) (by exact fun _ _ _ h => h) (Or.inl ⟨by rfl, ?_⟩) D1.out ?_
          rotate_left
          · (intro w' hSw; (try dsimp only at hSw); go_simp; try with_reducible rfl)
          try simp only [Act.put, List.setIfInBounds_toArray, List.set_cons_zero, List.set_cons_succ]
          refine wpAnyM_one (i := 12) (by kernel_rfl) (by simp only [List.getElem?_toArray, List.getElem?_cons_succ, List.getElem?_cons_zero]; rfl) ?_
          go_wp2_with fail
          refine ⟨D2.out, ?_⟩
          try simp only [Act.put, List.setIfInBounds_toArray, List.set_cons_zero, List.set_cons_succ]
          obtain ⟨M, hM⟩ : ∃ X, u1.heap.size = X := ⟨_, rfl⟩
          obtain ⟨u2, hu2⟩ : ∃ X, u1.alloc (.cells #[.int .i64 0, .int .i64 0, .int .i64 0, .int .i64 0] 56) = X := ⟨_, rfl⟩
          rw [hu2, hM] at T2
          rw [hu2] at D2
          have HADM := Aside0.mk (show ad.block < M by rw [← hM]; exact T1.out.1.lt ad rfl hn0)
          rw [hu2, hM]
          have hr := T2.out.rm
          obtain ⟨z0, z1, z2, z3⟩ := item_cells2 hr
          have yM := fun j => Go.Joins.unfrozen_of_block hr j
          have ho := only_set4 (W := u2) (g := M) (.int .i64 k0) (.int .i64 g) (.int .i64 ct) (.int .i64 0)
          have T3 := Aside0.mk (show RH w N M (some ad) n c xs #[.int .i64 0, .int .i64 0, .int .i64 0, .int .i64 0] #[.int .i64 k0, .int .i64 g, .int .i64 ct, .int .i64 0] _ from ⟨(ho.block _ (Array.getElem?_eq_some_iff.1 T2.out.rn).1 (Nat.ne_of_lt T2.out.ne)).trans T2.out.rn, row4_set (.int .i64 k0) (.int .i64 g) (.int .i64 ct) (.int .i64 0) hr, T2.out.ne, T2.out.bs.only ho (fun a e h0 => by injection e with e; rw [← e]; exact Nat.ne_of_lt HADM.out), ho.below T2.out.bel (by have := T2.out.ne; have := HN.out; omega) (Nat.le_refl _)⟩)
          have D3 := Aside0.mk (And.intro (ho.cell (Nat.ne_of_lt HADM.out) D2.out.1) (ho.cell (a := ⟨ad.block, ad.off + 1, none⟩) (Nat.ne_of_lt HADM.out) D2.out.2))
          clear hr ho
          refine wpAnyM_one (i := 13) (by kernel_rfl) (by simp only [List.getElem?_toArray, List.getElem?_cons_succ, List.getElem?_cons_zero]; rfl) ?_
          go_wp2_with fail
          refine ⟨D3.out, ?_⟩
          try simp only [Act.put, List.setIfInBounds_toArray, List.set_cons_zero, List.set_cons_succ]
          refine wpAnyM_done (by kernel_rfl) ?_ _
          exact ⟨M, T3.out, rfl⟩
        · skip
          go_wp2_with fail
          refine ⟨D2.out, ?_⟩
          try simp only [Act.put, List.setIfInBounds_toArray, List.set_cons_zero, List.set_cons_succ]
          refine wpAnyM_one (i := 10) (by kernel_rfl) (by simp only [List.getElem?_toArray, List.getElem?_cons_succ, List.getElem?_cons_zero]; rfl) ?_
          go_wp2_with (go_at_call 66; refine (number7_any _ 2 (c - 2) _ _ (HB2.out _ T2.out.bs) (by omega)).mono ?_; rintro e w9 ⟨rfl, rfl⟩; rw [HV2.out])
          refine ⟨D2.out, ?_⟩
          try simp only [Act.put, List.setIfInBounds_toArray, List.set_cons_zero, List.set_cons_succ]
          refine wpAnyM_take (i := 11) (v := ?_) (by simp only [List.getElem?_toArray, List.getElem?_cons_succ, List.getElem?_cons_zero]; rfl) (by kernel_rfl) (by kernel_rfl) (by kernel_rfl) (by kernel_rfl) (by exact fun _ _ _ h => h) (Or.inl ⟨by rfl, ?_⟩) D2.out ?_
          rotate_left
          · (intro w' hSw; (try dsimp only at hSw); go_simp; try with_reducible rfl)
          try simp only [Act.put, List.setIfInBounds_toArray, List.set_cons_zero, List.set_cons_succ]
          obtain ⟨M, hM⟩ : ∃ X, u1.heap.size = X := ⟨_, rfl⟩
          obtain ⟨u2, hu2⟩ : ∃ X, u1.alloc (.cells #[.int .i64 0, .int .i64 0, .int .i64 0, .int .i64 0] 56) = X := ⟨_, rfl⟩
          rw [hu2, hM] at T2
          rw [hu2] at D2
          have HADM := Aside0.mk (show ad.block < M by rw [← hM]; exact T1.out.1.lt ad rfl hn0)
          rw [hu2, hM]
          have hr := T2.out.rm
          obtain ⟨z0, z1, z2, z3⟩ := item_cells2 hr
          have yM := fun j => Go.Joins.unfrozen_of_block hr j
          have ho := only_set4 (W := u2) (g := M) (.int .i64 k0) (.int .i64 g) (.int .i64 ct) (.int .i64 0)
          have T3 := Aside0.mk (show RH w N M (some ad) n c xs #[.int .i64 0, .int .i64 0, .int .i64 0, .int .i64 0] #[.int .i64 k0, .int .i64 g, .int .i64 ct, .int .i64 0] _ from ⟨(ho.block _ (Array.getElem?_eq_some_iff.1 T2.out.rn).1 (Nat.ne_of_lt T2.out.ne)).trans T2.out.rn, row4_set (.int .i64 k0) (.int .i64 g) (.int .i64 ct) (.int .i64 0) hr, T2.out.ne, T2.out.bs.only ho (fun a e h0 => by injection e with e; rw [← e]; exact Nat.ne_of_lt HADM.out), ho.below T2.out.bel (by have := T2.out.ne; have := HN.out; omega) (Nat.le_refl _)⟩)
          have D3 := Aside0.mk (And.intro (ho.cell (Nat.ne_of_lt HADM.out) D2.out.1) (ho.cell (a := ⟨ad.block, ad.off + 1, none⟩) (Nat.ne_of_lt HADM.out) D2.out.2))
          clear hr ho
          refine wpAnyM_one (i := 13) (by kernel_rfl) (by simp only [List.getElem?_toArray, List.getElem?_cons_succ, List.getElem?_cons_zero]; rfl) ?_
          go_wp2_with fail
          refine ⟨D3.out, ?_⟩
          try simp only [Act.put, List.setIfInBounds_toArray, List.set_cons_zero, List.set_cons_succ]
          refine wpAnyM_done (by kernel_rfl) ?_ _
          exact ⟨M, T3.out, rfl⟩
      case hq =>
        intro M w4 hRH
        have H4 := Aside0.mk hRH
        clear hRH
        rcases (show g = 1 ∨ g = 2 ∨ g = 3 by omega) with rfl | rfl | rfl
        · skip
          obtain ⟨y0, y1, y2, y3⟩ := item_cells2 H4.out.rm
          have i0 : iwI 1 = 4 := rfl
          have HFR := Aside0.mk (show hFr xs = 4 ∧ (iwI (hG xs)).toNat = 4 from ⟨by unfold hFr hG; rw [HKG.out.2.1]; rfl, by unfold hG; rw [HKG.out.2.1]; rfl⟩)
          have HKN := Aside0.mk (show knownB (hK xs) (hG xs) = true from by have h := HK.out; unfold hK hG; exact h)
          go_upto_region 8 with (go_at_call 67; refine (rIdWidth_any 1 _).mono ?_; rintro e w9 ⟨rfl, rfl⟩; rw [i0])
          clear i0
          by_cases q1 : n < 8
          case pos =>
            have g1 : decide ((n : Int) < 8) = true := decide_eq_true (by omega)
            have HS := Aside0.mk (show ¬ (hFr xs + (iwI (hG xs)).toNat ≤ xs.length ∧ hNx xs ≤ 9223372036854775807) from fun q => by have := HFR.out; have := HL.out; omega)
            clear q1 y0 y1 y2 y3
            go_upto_region 9 with fail
            have hrN := H4.out.rn
            obtain ⟨x0, x1, x2, x3⟩ := item_cells2 hrN
            have yN := fun j => Go.Joins.unfrozen_of_block hrN j
            have hD := rhload (row4_set (.int .i64 0) (.int .i64 0) (.int .i64 0) (.int .i64 0) hrN)
            have HBF := Aside0.mk ((only_set4 (W := w4) (g := N) (.int .i64 0) (.int .i64 0) (.int .i64 0) (.int .i64 0)).below H4.out.bel (Nat.le_of_eq HN.out) (Nat.le_refl _))
            have HE := Aside0.mk (show hE xs = 72 ∧ hV xs = #[.int .i64 0, .int .i64 0, .int .i64 0, .int .i64 0] from ⟨by unfold hE; rw [if_pos ⟨HX4.out, HKN.out⟩, if_neg HS.out], by unfold hV; rw [if_neg (by unfold hE; rw [if_pos ⟨HX4.out, HKN.out⟩, if_neg HS.out]; decide)]⟩)
            have HDL := Aside0.mk hD
            clear hD hrN
            go_wp2_with fail
            have hD := HDL.out
            refine bodyPost_ret (v := .tuple #[.agg #[.int .i64 0, .int .i64 0, .int .i64 0, .int .i64 0], .int .i64 72]) (by simp [results, Try.results26, asAddr, hD]) rfl ?_
            rw [HE.out.1, HE.out.2]
            exact ⟨rfl, HBF.out⟩
          case neg =>
            have g1 : decide ((n : Int) < 8) = false := decide_eq_false (by omega)
            have s1 := fun W => sl8_lh W (some ad) n c .i64 .i64 4 8 (by omega) (by omega) (by omega)
            have HB3 := Aside0.mk (show Bs w4 (cutA (some ad) c 4) 4 (c - 4) ((xs.drop 4).take 4) by have := (H4.out.bs.drop 4 (by omega)).take 4 (by omega); exact this)
            have HNX := Aside0.mk (show hNx xs = (leN ((xs.drop 4).take 4) : Int) by unfold hNx; rw [HFR.out.1, HFR.out.2])
            by_cases q2 : nm7 ((xs.drop 4).take 4) < 0
            case pos =>
              have g2 : decide (nm7 ((xs.drop 4).take 4) < 0) = true := decide_eq_true q2
              have HS := Aside0.mk (show ¬ (hFr xs + (iwI (hG xs)).toNat ≤ xs.length ∧ hNx xs ≤ 9223372036854775807) from fun q => by have h1 := nm7_lo.1 q2; have h2 := q.2; rw [HNX.out] at h2; omega)
              clear q1 q2 y0 y1 y2 y3
              go_upto_region 9 with (go_at_call 66; refine (number7_any _ _ _ _ w4 HB3.out (by omega)).mono ?_; rintro e w9 ⟨rfl, rfl⟩)
              clear g1 g2
              have hrN := H4.out.rn
              obtain ⟨x0, x1, x2, x3⟩ := item_cells2 hrN
              have yN := fun j => Go.Joins.unfrozen_of_block hrN j
              have hD := rhload (row4_set (.int .i64 0) (.int .i64 0) (.int .i64 0) (.int .i64 0) hrN)
              have HBF := Aside0.mk ((only_set4 (W := w4) (g := N) (.int .i64 0) (.int .i64 0) (.int .i64 0) (.int .i64 0)).below H4.out.bel (Nat.le_of_eq HN.out) (Nat.le_refl _))
              have HE := Aside0.mk (show hE xs = 72 ∧ hV xs = #[.int .i64 0, .int .i64 0, .int .i64 0, .int .i64 0] from ⟨by unfold hE; rw [if_pos ⟨HX4.out, HKN.out⟩, if_neg HS.out], by unfold hV; rw [if_neg (by unfold hE; rw [if_pos ⟨HX4.out, HKN.out⟩, if_neg HS.out]; decide)]⟩)
              have HDL := Aside0.mk hD
              clear hD hrN
              go_wp2_with fail
              have hD := HDL.out
              refine bodyPost_ret (v := .tuple #[.agg #[.int .i64 0, .int .i64 0, .int .i64 0, .int .i64 0], .int .i64 72]) (by simp [results, Try.results26, asAddr, hD]) rfl ?_
              rw [HE.out.1, HE.out.2]
              exact ⟨rfl, HBF.out⟩
            case neg =>
              have g2 : decide (nm7 ((xs.drop 4).take 4) < 0) = false := decide_eq_false q2
              have HS := Aside0.mk (show (hFr xs + (iwI (hG xs)).toNat ≤ xs.length ∧ hNx xs ≤ 9223372036854775807) ∧ nm7 ((xs.drop 4).take 4) = hNx xs by
                have h1 := mt nm7_lo.2 q2
                have h2 := HFR.out
                have h3 := HL.out
                refine ⟨⟨by omega, by rw [HNX.out]; omega⟩, ?_⟩
                rw [HNX.out]
                exact if_pos (by omega))
              clear q1 q2
              have yM := fun j => Go.Joins.unfrozen_of_block H4.out.rm j
              go_upto_region 11 with (go_at_call 66; refine (number7_any _ _ _ _ w4 HB3.out (by omega)).mono ?_; rintro e w9 ⟨rfl, rfl⟩)
              obtain ⟨nx, hnx⟩ : ∃ x, nm7 ((xs.drop 4).take 4) = x := ⟨_, rfl⟩
              rw [hnx] at HS
              rw [hnx]
              clear hnx g1 g2 y0 y1 y2 y3 yM
              have hrM := heap_setCell_same w4 M 3 _ _ (.int .i64 nx) H4.out.rm
              have ho := (OnlyB.refl M w4).set 3 (.int .i64 nx)
              have hrN := (ho.block _ (Array.getElem?_eq_some_iff.1 H4.out.rn).1 (Nat.ne_of_lt H4.out.ne)).trans H4.out.rn
              have hbl := ho.below H4.out.bel (by have := H4.out.ne; have := HN.out; omega) (Nat.le_refl _)
              have H5 := Aside0.mk (And.intro hrM (And.intro hrN hbl))
              obtain ⟨w5, hw5⟩ : ∃ X, w4.setCell ⟨M, 3, none⟩ (.int .i64 nx) = X := ⟨_, rfl⟩
              rw [hw5] at H5 ⊢
              clear hw5 hrM ho hrN hbl
              obtain ⟨y0, y1, y2, y3⟩ := item_cells2 H5.out.1
              have hrN := H5.out.2.1
              obtain ⟨x0, x1, x2, x3⟩ := item_cells2 hrN
              have yN := fun j => Go.Joins.unfrozen_of_block hrN j
              have hD := rhload (row4_set (.int .i64 k0) (.int .i64 1) (.int .i64 ct) (.int .i64 nx) hrN)
              have HE := Aside0.mk (show hE xs = 0 ∧ hV xs = #[.int .i64 k0, .int .i64 1, .int .i64 ct, .int .i64 nx] from by
                have h0 : hE xs = 0 := by unfold hE; rw [if_pos ⟨HX4.out, HKN.out⟩, if_pos HS.out.1]
                refine ⟨h0, ?_⟩
                unfold hV
                rw [if_pos h0, ← HS.out.2, HKG.out.2.2]
                unfold hK hG
                rw [HKG.out.1, HKG.out.2.1])
              have HBF := Aside0.mk ((only_set4 (W := w5) (g := N) (.int .i64 k0) (.int .i64 1) (.int .i64 ct) (.int .i64 nx)).below H5.out.2.2 (Nat.le_of_eq HN.out) (Nat.le_refl _))
              have HDL := Aside0.mk hD
              clear hD hrN
              go_wp2_with fail
              have hD := HDL.out
              refine bodyPost_ret (v := .tuple #[.agg #[.int .i64 k0, .int .i64 1, .int .i64 ct, .int .i64 nx], .int .i64 0]) (by simp [results, Try.results26, asAddr, hD]) rfl ?_
              rw [HE.out.1, HE.out.2]
              exact ⟨rfl, HBF.out⟩
        · skip
          obtain ⟨y0, y1, y2, y3⟩ := item_cells2 H4.out.rm
          have i0 : iwI 2 = 8 := rfl
          have HFR := Aside0.mk (show hFr xs = 8 ∧ (iwI (hG xs)).toNat = 8 from ⟨by unfold hFr hG; rw [HKG.out.2.1]; rfl, by unfold hG; rw [HKG.out.2.1]; rfl⟩)
          have HKN := Aside0.mk (show knownB (hK xs) (hG xs) = true from by have h := HK.out; unfold hK hG; exact h)
          go_upto_region 8 with (go_at_call 67; refine (rIdWidth_any 2 _).mono ?_; rintro e w9 ⟨rfl, rfl⟩; rw [i0])
          clear i0
          by_cases q1 : n < 16
          case pos =>
            have g1 : decide ((n : Int) < 16) = true := decide_eq_true (by omega)
            have HS := Aside0.mk (show ¬ (hFr xs + (iwI (hG xs)).toNat ≤ xs.length ∧ hNx xs ≤ 9223372036854775807) from fun q => by have := HFR.out; have := HL.out; omega)
            clear q1 y0 y1 y2 y3
            go_upto_region 9 with fail
            have hrN := H4.out.rn
            obtain ⟨x0, x1, x2, x3⟩ := item_cells2 hrN
            have yN := fun j => Go.Joins.unfrozen_of_block hrN j
            have hD := rhload (row4_set (.int .i64 0) (.int .i64 0) (.int .i64 0) (.int .i64 0) hrN)
            have HBF := Aside0.mk ((only_set4 (W := w4) (g := N) (.int .i64 0) (.int .i64 0) (.int .i64 0) (.int .i64 0)).below H4.out.bel (Nat.le_of_eq HN.out) (Nat.le_refl _))
            have HE := Aside0.mk (show hE xs = 72 ∧ hV xs = #[.int .i64 0, .int .i64 0, .int .i64 0, .int .i64 0] from ⟨by unfold hE; rw [if_pos ⟨HX4.out, HKN.out⟩, if_neg HS.out], by unfold hV; rw [if_neg (by unfold hE; rw [if_pos ⟨HX4.out, HKN.out⟩, if_neg HS.out]; decide)]⟩)
            have HDL := Aside0.mk hD
            clear hD hrN
            go_wp2_with fail
            have hD := HDL.out
            refine bodyPost_ret (v := .tuple #[.agg #[.int .i64 0, .int .i64 0, .int .i64 0, .int .i64 0], .int .i64 72]) (by simp [results, Try.results26, asAddr, hD]) rfl ?_
            rw [HE.out.1, HE.out.2]
            exact ⟨rfl, HBF.out⟩
          case neg =>
            have g1 : decide ((n : Int) < 16) = false := decide_eq_false (by omega)
            have s1 := fun W => sl8_lh W (some ad) n c .i64 .i64 8 16 (by omega) (by omega) (by omega)
            have HB3 := Aside0.mk (show Bs w4 (cutA (some ad) c 8) 8 (c - 8) ((xs.drop 8).take 8) by have := (H4.out.bs.drop 8 (by omega)).take 8 (by omega); exact this)
            have HNX := Aside0.mk (show hNx xs = (leN ((xs.drop 8).take 8) : Int) by unfold hNx; rw [HFR.out.1, HFR.out.2])
            by_cases q2 : nm7 ((xs.drop 8).take 8) < 0
            case pos =>
              have g2 : decide (nm7 ((xs.drop 8).take 8) < 0) = true := decide_eq_true q2
              have HS := Aside0.mk (show ¬ (hFr xs + (iwI (hG xs)).toNat ≤ xs.length ∧ hNx xs ≤ 9223372036854775807) from fun q => by have h1 := nm7_lo.1 q2; have h2 := q.2; rw [HNX.out] at h2; omega)
              clear q1 q2 y0 y1 y2 y3
              go_upto_region 9 with (go_at_call 66; refine (number7_any _ _ _ _ w4 HB3.out (by omega)).mono ?_; rintro e w9 ⟨rfl, rfl⟩)
              clear g1 g2
              have hrN := H4.out.rn
              obtain ⟨x0, x1, x2, x3⟩ := item_cells2 hrN
              have yN := fun j => Go.Joins.unfrozen_of_block hrN j
              have hD := rhload (row4_set (.int .i64 0) (.int .i64 0) (.int .i64 0) (.int .i64 0) hrN)
              have HBF := Aside0.mk ((only_set4 (W := w4) (g := N) (.int .i64 0) (.int .i64 0) (.int .i64 0) (.int .i64 0)).below H4.out.bel (Nat.le_of_eq HN.out) (Nat.le_refl _))
              have HE := Aside0.mk (show hE xs = 72 ∧ hV xs = #[.int .i64 0, .int .i64 0, .int .i64 0, .int .i64 0] from ⟨by unfold hE; rw [if_pos ⟨HX4.out, HKN.out⟩, if_neg HS.out], by unfold hV; rw [if_neg (by unfold hE; rw [if_pos ⟨HX4.out, HKN.out⟩, if_neg HS.out]; decide)]⟩)
              have HDL := Aside0.mk hD
              clear hD hrN
              go_wp2_with fail
              have hD := HDL.out
              refine bodyPost_ret (v := .tuple #[.agg #[.int .i64 0, .int .i64 0, .int .i64 0, .int .i64 0], .int .i64 72]) (by simp [results, Try.results26, asAddr, hD]) rfl ?_
              rw [HE.out.1, HE.out.2]
              exact ⟨rfl, HBF.out⟩
            case neg =>
              have g2 : decide (nm7 ((xs.drop 8).take 8) < 0) = false := decide_eq_false q2
              have HS := Aside0.mk (show (hFr xs + (iwI (hG xs)).toNat ≤ xs.length ∧ hNx xs ≤ 9223372036854775807) ∧ nm7 ((xs.drop 8).take 8) = hNx xs by
                have h1 := mt nm7_lo.2 q2
                have h2 := HFR.out
                have h3 := HL.out
                refine ⟨⟨by omega, by rw [HNX.out]; omega⟩, ?_⟩
                rw [HNX.out]
                exact if_pos (by omega))
              clear q1 q2
              have yM := fun j => Go.Joins.unfrozen_of_block H4.out.rm j
              go_upto_region 11 with (go_at_call 66; refine (number7_any _ _ _ _ w4 HB3.out (by omega)).mono ?_; rintro e w9 ⟨rfl, rfl⟩)
              obtain ⟨nx, hnx⟩ : ∃ x, nm7 ((xs.drop 8).take 8) = x := ⟨_, rfl⟩
              rw [hnx] at HS
              rw [hnx]
              clear hnx g1 g2 y0 y1 y2 y3 yM
              have hrM := heap_setCell_same w4 M 3 _ _ (.int .i64 nx) H4.out.rm
              have ho := (OnlyB.refl M w4).set 3 (.int .i64 nx)
              have hrN := (ho.block _ (Array.getElem?_eq_some_iff.1 H4.out.rn).1 (Nat.ne_of_lt H4.out.ne)).trans H4.out.rn
              have hbl := ho.below H4.out.bel (by have := H4.out.ne; have := HN.out; omega) (Nat.le_refl _)
              have H5 := Aside0.mk (And.intro hrM (And.intro hrN hbl))
              obtain ⟨w5, hw5⟩ : ∃ X, w4.setCell ⟨M, 3, none⟩ (.int .i64 nx) = X := ⟨_, rfl⟩
              rw [hw5] at H5 ⊢
              clear hw5 hrM ho hrN hbl
              obtain ⟨y0, y1, y2, y3⟩ := item_cells2 H5.out.1
              have hrN := H5.out.2.1
              obtain ⟨x0, x1, x2, x3⟩ := item_cells2 hrN
              have yN := fun j => Go.Joins.unfrozen_of_block hrN j
              have hD := rhload (row4_set (.int .i64 k0) (.int .i64 2) (.int .i64 ct) (.int .i64 nx) hrN)
              have HE := Aside0.mk (show hE xs = 0 ∧ hV xs = #[.int .i64 k0, .int .i64 2, .int .i64 ct, .int .i64 nx] from by
                have h0 : hE xs = 0 := by unfold hE; rw [if_pos ⟨HX4.out, HKN.out⟩, if_pos HS.out.1]
                refine ⟨h0, ?_⟩
                unfold hV
                rw [if_pos h0, ← HS.out.2, HKG.out.2.2]
                unfold hK hG
                rw [HKG.out.1, HKG.out.2.1])
              have HBF := Aside0.mk ((only_set4 (W := w5) (g := N) (.int .i64 k0) (.int .i64 2) (.int .i64 ct) (.int .i64 nx)).below H5.out.2.2 (Nat.le_of_eq HN.out) (Nat.le_refl _))
              have HDL := Aside0.mk hD
              clear hD hrN
              go_wp2_with fail
              have hD := HDL.out
              refine bodyPost_ret (v := .tuple #[.agg #[.int .i64 k0, .int .i64 2, .int .i64 ct, .int .i64 nx], .int .i64 0]) (by simp [results, Try.results26, asAddr, hD]) rfl ?_
              rw [HE.out.1, HE.out.2]
              exact ⟨rfl, HBF.out⟩
        · skip
          obtain ⟨y0, y1, y2, y3⟩ := item_cells2 H4.out.rm
          have i0 : iwI 3 = 8 := rfl
          have HFR := Aside0.mk (show hFr xs = 8 ∧ (iwI (hG xs)).toNat = 8 from ⟨by unfold hFr hG; rw [HKG.out.2.1]; rfl, by unfold hG; rw [HKG.out.2.1]; rfl⟩)
          have HKN := Aside0.mk (show knownB (hK xs) (hG xs) = true from by have h := HK.out; unfold hK hG; exact h)
          go_upto_region 8 with (go_at_call 67; refine (rIdWidth_any 3 _).mono ?_; rintro e w9 ⟨rfl, rfl⟩; rw [i0])
          clear i0
          by_cases q1 : n < 16
          case pos =>
            have g1 : decide ((n : Int) < 16) = true := decide_eq_true (by omega)
            have HS := Aside0.mk (show ¬ (hFr xs + (iwI (hG xs)).toNat ≤ xs.length ∧ hNx xs ≤ 9223372036854775807) from fun q => by have := HFR.out; have := HL.out; omega)
            clear q1 y0 y1 y2 y3
            go_upto_region 9 with fail
            have hrN := H4.out.rn
            obtain ⟨x0, x1, x2, x3⟩ := item_cells2 hrN
            have yN := fun j => Go.Joins.unfrozen_of_block hrN j
            have hD := rhload (row4_set (.int .i64 0) (.int .i64 0) (.int .i64 0) (.int .i64 0) hrN)
            have HBF := Aside0.mk ((only_set4 (W := w4) (g := N) (.int .i64 0) (.int .i64 0) (.int .i64 0) (.int .i64 0)).below H4.out.bel (Nat.le_of_eq HN.out) (Nat.le_refl _))
            have HE := Aside0.mk (show hE xs = 72 ∧ hV xs = #[.int .i64 0, .int .i64 0, .int .i64 0, .int .i64 0] from ⟨by unfold hE; rw [if_pos ⟨HX4.out, HKN.out⟩, if_neg HS.out], by unfold hV; rw [if_neg (by unfold hE; rw [if_pos ⟨HX4.out, HKN.out⟩, if_neg HS.out]; decide)]⟩)
            have HDL := Aside0.mk hD
            clear hD hrN
            go_wp2_with fail
            have hD := HDL.out
            refine bodyPost_ret (v := .tuple #[.agg #[.int .i64 0, .int .i64 0, .int .i64 0, .int .i64 0], .int .i64 72]) (by simp [results, Try.results26, asAddr, hD]) rfl ?_
            rw [HE.out.1, HE.out.2]
            exact ⟨rfl, HBF.out⟩
          case neg =>
            have g1 : decide ((n : Int) < 16) = false := decide_eq_false (by omega)
            have s1 := fun W => sl8_lh W (some ad) n c .i64 .i64 8 16 (by omega) (by omega) (by omega)
            have HB3 := Aside0.mk (show Bs w4 (cutA (some ad) c 8) 8 (c - 8) ((xs.drop 8).take 8) by have := (H4.out.bs.drop 8 (by omega)).take 8 (by omega); exact this)
            have HNX := Aside0.mk (show hNx xs = (leN ((xs.drop 8).take 8) : Int) by unfold hNx; rw [HFR.out.1, HFR.out.2])
            by_cases q2 : nm7 ((xs.drop 8).take 8) < 0
            case pos =>
              have g2 : decide (nm7 ((xs.drop 8).take 8) < 0) = true := decide_eq_true q2
              have HS := Aside0.mk (show ¬ (hFr xs + (iwI (hG xs)).toNat ≤ xs.length ∧ hNx xs ≤ 9223372036854775807) from fun q => by have h1 := nm7_lo.1 q2; have h2 := q.2; rw [HNX.out] at h2; omega)
              clear q1 q2 y0 y1 y2 y3
              go_upto_region 9 with (go_at_call 66; refine (number7_any _ _ _ _ w4 HB3.out (by omega)).mono ?_; rintro e w9 ⟨rfl, rfl⟩)
              clear g1 g2
              have hrN := H4.out.rn
              obtain ⟨x0, x1, x2, x3⟩ := item_cells2 hrN
              have yN := fun j => Go.Joins.unfrozen_of_block hrN j
              have hD := rhload (row4_set (.int .i64 0) (.int .i64 0) (.int .i64 0) (.int .i64 0) hrN)
              have HBF := Aside0.mk ((only_set4 (W := w4) (g := N) (.int .i64 0) (.int .i64 0) (.int .i64 0) (.int .i64 0)).below H4.out.bel (Nat.le_of_eq HN.out) (Nat.le_refl _))
              have HE := Aside0.mk (show hE xs = 72 ∧ hV xs = #[.int .i64 0, .int .i64 0, .int .i64 0, .int .i64 0] from ⟨by unfold hE; rw [if_pos ⟨HX4.out, HKN.out⟩, if_neg HS.out], by unfold hV; rw [if_neg (by unfold hE; rw [if_pos ⟨HX4.out, HKN.out⟩, if_neg HS.out]; decide)]⟩)
              have HDL := Aside0.mk hD
              clear hD hrN
              go_wp2_with fail
              have hD := HDL.out
              refine bodyPost_ret (v := .tuple #[.agg #[.int .i64 0, .int .i64 0, .int .i64 0, .int .i64 0], .int .i64 72]) (by simp [results, Try.results26, asAddr, hD]) rfl ?_
              rw [HE.out.1, HE.out.2]
              exact ⟨rfl, HBF.out⟩
            case neg =>
              have g2 : decide (nm7 ((xs.drop 8).take 8) < 0) = false := decide_eq_false q2
              have HS := Aside0.mk (show (hFr xs + (iwI (hG xs)).toNat ≤ xs.length ∧ hNx xs ≤ 9223372036854775807) ∧ nm7 ((xs.drop 8).take 8) = hNx xs by
                have h1 := mt nm7_lo.2 q2
                have h2 := HFR.out
                have h3 := HL.out
                refine ⟨⟨by omega, by rw [HNX.out]; omega⟩, ?_⟩
                rw [HNX.out]
                exact if_pos (by omega))
              clear q1 q2
              have yM := fun j => Go.Joins.unfrozen_of_block H4.out.rm j
              go_upto_region 11 with (go_at_call 66; refine (number7_any _ _ _ _ w4 HB3.out (by omega)).mono ?_; rintro e w9 ⟨rfl, rfl⟩)
              obtain ⟨nx, hnx⟩ : ∃ x, nm7 ((xs.drop 8).take 8) = x := ⟨_, rfl⟩
              rw [hnx] at HS
              rw [hnx]
              clear hnx g1 g2 y0 y1 y2 y3 yM
              have hrM := heap_setCell_same w4 M 3 _ _ (.int .i64 nx) H4.out.rm
              have ho := (OnlyB.refl M w4).set 3 (.int .i64 nx)
              have hrN := (ho.block _ (Array.getElem?_eq_some_iff.1 H4.out.rn).1 (Nat.ne_of_lt H4.out.ne)).trans H4.out.rn
              have hbl := ho.below H4.out.bel (by have := H4.out.ne; have := HN.out; omega) (Nat.le_refl _)
              have H5 := Aside0.mk (And.intro hrM (And.intro hrN hbl))
              obtain ⟨w5, hw5⟩ : ∃ X, w4.setCell ⟨M, 3, none⟩ (.int .i64 nx) = X := ⟨_, rfl⟩
              rw [hw5] at H5 ⊢
              clear hw5 hrM ho hrN hbl
              obtain ⟨y0, y1, y2, y3⟩ := item_cells2 H5.out.1
              have hrN := H5.out.2.1
              obtain ⟨x0, x1, x2, x3⟩ := item_cells2 hrN
              have yN := fun j => Go.Joins.unfrozen_of_block hrN j
              have hD := rhload (row4_set (.int .i64 k0) (.int .i64 3) (.int .i64 ct) (.int .i64 nx) hrN)
              have HE := Aside0.mk (show hE xs = 0 ∧ hV xs = #[.int .i64 k0, .int .i64 3, .int .i64 ct, .int .i64 nx] from by
                have h0 : hE xs = 0 := by unfold hE; rw [if_pos ⟨HX4.out, HKN.out⟩, if_pos HS.out.1]
                refine ⟨h0, ?_⟩
                unfold hV
                rw [if_pos h0, ← HS.out.2, HKG.out.2.2]
                unfold hK hG
                rw [HKG.out.1, HKG.out.2.1])
              have HBF := Aside0.mk ((only_set4 (W := w5) (g := N) (.int .i64 k0) (.int .i64 3) (.int .i64 ct) (.int .i64 nx)).below H5.out.2.2 (Nat.le_of_eq HN.out) (Nat.le_refl _))
              have HDL := Aside0.mk hD
              clear hD hrN
              go_wp2_with fail
              have hD := HDL.out
              refine bodyPost_ret (v := .tuple #[.agg #[.int .i64 k0, .int .i64 3, .int .i64 ct, .int .i64 nx], .int .i64 0]) (by simp [results, Try.results26, asAddr, hD]) rfl ?_
              rw [HE.out.1, HE.out.2]
              exact ⟨rfl, HBF.out⟩
end Go.Proofs.Ytbjfklgmbeaaoaa
