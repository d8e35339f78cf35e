/- The walks of law12's few and ref12's Right. -/
import Derived.Test.YthhalmjapiempaaN9
set_option linter.unusedVariables false
set_option linter.unusedSimpArgs false
namespace Go.Proofs.Ythhalmjapiempaa
open Go.RowKit

/-- Writes that are read, however many. -/
structure Rl (w : World) (A : Option Addr) (n c : Nat) (hs : List (Int × Option Addr × Nat × Nat)) : Prop where
  len : hs.length = n
  le : n ≤ c
  cap : c ≤ 9223372036854775807
  lim : n ≤ 140737488355328
  cells : 0 < n → ∃ ad, A = some ad ∧ ∀ j u, (wv hs)[j]? = some u → w.cell? (ad.add j) = some u
theorem Rl.rc {w : World} {A : Option Addr} {n c : Nat} {hs : List (Int × Option Addr × Nat × Nat)} (h : Rl w A n c hs) (hn : n ≤ 1000000000) : Rc w 2 A n c (wv hs) := ⟨by rw [wv_len, h.len], h.le, h.cap, hn, wv_one _, h.cells⟩
theorem Rl.below {w w1 : World} {A : Option Addr} {n c : Nat} {hs : List (Int × Option Addr × Nat × Nat)} (h : Rl w A n c hs) (hb : Below w.heap.size w w1) : Rl w1 A n c hs :=
  ⟨h.len, h.le, h.cap, h.lim, fun hn => by
    obtain ⟨ad, e, hc⟩ := h.cells hn
    exact ⟨ad, e, fun j u hu => cell_below hb (hc j u hu)⟩⟩
theorem Rl.two {w : World} {A : Option Addr} {n c : Nat} {hs : List (Int × Option Addr × Nat × Nat)} (h : Rl w A n c hs) (j : Nat) (hj : j < n) :
    ∃ ad p, A = some ad ∧ hs[j]? = some p ∧ w.cell? (ad.add (j * 2)) = some (.int .i64 p.1) ∧ w.cell? ⟨(ad.add (j * 2)).block, (ad.add (j * 2)).off + 1, none⟩ = some (.slice p.2.1 p.2.2.1 p.2.2.2) := by
  obtain ⟨ad, e, hx⟩ := h.cells (by omega)
  have hl := h.len
  have hp : hs[j]? = some hs[j] := List.getElem?_eq_getElem (by omega)
  obtain ⟨k1, k2⟩ := wv_at hs j _ hp
  refine ⟨ad, _, e, hp, hx _ _ k1, ?_⟩
  have := hx _ _ k2
  rw [← add_add] at this
  obtain ⟨b, o, s⟩ := ad
  simpa [Addr.add] using this
def fewB (l : List (Int × List UInt8)) (m : MV) : Bool := decide (l.length ≤ 12 ∧ totB l ≤ 5120 ∧ m.pg ≤ 40 ∧ m.cu.length ≤ 100)
theorem totB_le (B : Nat) : ∀ (l : List (Int × List UInt8)), (∀ q ∈ l, q.2.length ≤ B) → totB l ≤ l.length * B
  | [], _ => Nat.zero_le _
  | p :: r, h => by
    have h1 := totB_le B r (fun q hq => h q (List.mem_cons_of_mem _ hq))
    have h2 := h p List.mem_cons_self
    have h3 : totB (p :: r) = p.2.length + totB r := by simp [totB]
    rw [h3, List.length_cons, Nat.succ_mul]
    omega
theorem Hl.small {hs : List (Int × Option Addr × Nat × Nat)} {l : List (Int × List UInt8)} (h : Hl hs l) : ∀ q ∈ l, q.2.length ≤ 140737488355328 := fun q hq => by
  obtain ⟨j, hj, e⟩ := List.mem_iff_getElem.1 hq
  have hj2 : j < hs.length := by rw [h.len]; exact hj
  obtain ⟨q2, a, b, c, d, _⟩ := h.each j _ (List.getElem?_eq_getElem hj2)
  have : q2 = q := by rw [List.getElem?_eq_getElem hj] at a; injection a with a; rw [← a, e]
  rw [← this, ← c]
  exact d
set_option maxHeartbeats 4000000 in
set_option maxRecDepth 100000 in
theorem few12_any (A : Option Addr) (n c : Nat) (hs : List (Int × Option Addr × Nat × Nat)) (l : List (Int × List UInt8)) (m : MV) (A' : Option Addr) (c' : Nat) (W : World) (hr : Rl W A n c hs) (hh : Hl hs l) (hm : m.cu.length ≤ 140737488355328) :
    Calls Try.prog 9 #[.slice A n c, .agg (m.agg A' c')] W fun e w' => e = .returned (.bool (fewB l m)) ∧ Below W.heap.size W w' := by
  obtain ⟨ge, ph, tg, tx, rt, pg, li, cu⟩ := m
  obtain ⟨bx, hbx⟩ : ∃ b : Obj, Obj.cells #[.int .i64 ge, .int .i64 ph, .int .i64 tg, .int .i64 tx, .int .i64 rt, .int .i64 pg, .int .i64 li, .slice A' cu.length c'] 24 = b := ⟨_, rfl⟩
  have hbel0 : Below W.heap.size W (W.alloc bx) := (Below.refl _ W).alloc (Nat.le_refl _) bx
  have hro0 := heap_alloc_new W bx
  have hlim := hr.lim
  have HR := Aside0.mk hr
  have hl := hr.len
  have HH := Aside0.mk hh
  have HN := Aside0.mk (show n = l.length by rw [← hl]; exact hh.len)
  have HT := Aside0.mk (show n ≤ 12 → ∀ j, totB (l.take j) ≤ 12 * 140737488355328 by
    intro h j
    have h1 := totB_take l j
    have h2 := totB_le _ l hh.small
    rw [← hh.len, hl] at h2
    omega)
  clear hr hl hh
  show Calls Try.prog 9 #[.slice A n c, .agg #[.int .i64 ge, .int .i64 ph, .int .i64 tg, .int .i64 tx, .int .i64 rt, .int .i64 pg, .int .i64 li, .slice A' cu.length c']] W _
  go_enter Try.func9, Try.ntmps9
  go_upto_region 3 with fail
  obtain ⟨W0, hW0⟩ : ∃ X, W.alloc bx = X := ⟨_, rfl⟩
  obtain ⟨N0, hN0⟩ : ∃ X, W.heap.size = X := ⟨_, rfl⟩
  rw [hW0, hN0] at hro0
  rw [hW0] at hbel0
  rw [hW0, hN0]
  have HB := Aside0.mk (And.intro hbel0 hro0)
  have HBX := Aside0.mk hbx
  have HN0 := Aside0.mk hN0
  clear hW0 hN0 hbx hbel0 hro0
  go_loopg [5, 10] n (fun gk v5 v10 wr => ∃ (j : Nat) (z : Int), Aside (gk + j = n) ∧ v10 = .int .i64 (j : Int) ∧ v5 = .int .i64 z ∧ Aside0 ((n ≤ 12 → z = (totB (l.take j) : Int)) ∧ Below W.heap.size W wr ∧ wr.heap[N0]? = some bx))
  case atStart => exact ⟨0, 0, rfl, rfl, rfl, ⟨fun _ => by simp [totB], HB.out.1, HB.out.2⟩⟩
  case round =>
    obtain ⟨j, z, hk, rfl, rfl, hI⟩ := hrel
    have hjm : j ≤ n := by have := hk.out; omega
    rcases Nat.lt_or_ge j n with hlt | hge
    · have d1 : decide ((j : Int) < (n : Int)) = true := decide_eq_true (by omega)
      have hjn : (j : Int) < (n : Int) := by omega
      obtain ⟨ad, p, rfl, hp, c0, c1⟩ := (HR.out.below hI.out.2.1).two j hlt
      obtain ⟨q, hq, hpq, hpl, hp47, _⟩ := HH.out.each j p hp
      have HP := Aside0.mk (And.intro hq hpl)
      have HB0 := Aside0.mk ((Below.refl _ wr).alloc (Nat.le_refl _) (.cells #[.int .i64 p.1, .slice p.2.1 p.2.2.1 p.2.2.2] 64))
      clear hp hq hpq hpl
      obtain ⟨z2, hz2⟩ : ∃ x, IntKind.i64.wrap (z + (p.2.2.1 : Int)) = x := ⟨_, rfl⟩
      have HZ := Aside0.mk hz2
      go_upto_region 5 with fail
      obtain ⟨W1, hW1⟩ : ∃ X, wr.alloc (.cells #[.int .i64 p.1, .slice p.2.1 p.2.2.1 p.2.2.2] 64) = X := ⟨_, rfl⟩
      have hrow := heap_alloc_new wr (.cells #[.int .i64 p.1, .slice p.2.1 p.2.2.1 p.2.2.2] 64)
      rw [hW1] at HB0 hrow ⊢
      have b0 : W1.cell? ⟨wr.heap.size, 0, none⟩ = some (.int .i64 p.1) := by rw [cell_of_row _ _ _ _ _ _ hrow]; rfl
      have b1 : W1.cell? ⟨wr.heap.size, 1, none⟩ = some (.slice p.2.1 p.2.2.1 p.2.2.2) := by rw [cell_of_row _ _ _ _ _ _ hrow]; rfl
      have HB1 := Aside0.mk (below_then hI.out.2.1 hI.out.2.1.size HB0.out)
      obtain ⟨N, hN⟩ : ∃ N, wr.heap.size = N := ⟨_, rfl⟩
      rw [hN] at b0 b1 ⊢
      have HRW := Aside0.mk (show W1.heap[N0]? = some bx by rw [HB0.out.block _ (Array.getElem?_eq_some_iff.1 hI.out.2.2).1]; exact hI.out.2.2)
      clear hW1 hrow c0 c1 hN
      go_wp2_with fail
      go_roundg (n - (j + 1))
      case measure => have := hk.out; omega
      case rel =>
        refine ⟨j + 1, z2, (by show n - (j + 1) + (j + 1) = n; omega), by go_num, rfl, ⟨fun h12 => ?_, HB1.out, HRW.out⟩⟩
        have h1 := hI.out.1 h12
        have h2 := HT.out h12 (j + 1)
        have h3 := HT.out h12 j
        have h4 : totB (l.take (j + 1)) = totB (l.take j) + p.2.2.1 := by
          rw [List.take_add_one, HP.out.1, totB_append, HP.out.2]
          simp [totB]
        rw [← HZ.out, h1, h4]
        exact IntWalk.i64_in _ (by omega)
    · obtain rfl : n = j := by omega
      have d1 : decide ((n : Int) < (n : Int)) = false := by simp
      have hro := hI.out.2.2
      rw [← HBX.out] at hro
      obtain ⟨y0, y1, y2, y3, y4, y5, y6, y7⟩ := row8_cells hro
      clear hro
      have hz := hI.out.1
      rw [List.take_of_length_le (by rw [← HN.out]; exact Nat.le_refl _)] at hz
      by_cases h12 : n ≤ 12
      · have e1 : decide ((n : Int) ≤ 12) = true := decide_eq_true (by omega)
        have hz := hz h12
        by_cases h5 : totB l ≤ 5120
        · have e2 : decide (z ≤ 5120) = true := decide_eq_true (by omega)
          by_cases h6 : pg ≤ 40
          · have e3 : decide (pg ≤ 40) = true := decide_eq_true h6
            by_cases h7 : cu.length ≤ 100
            · have e4 : decide ((cu.length : Int) ≤ 100) = true := decide_eq_true (by omega)
              have HC := Aside0.mk (show fewB l ⟨ge, ph, tg, tx, rt, pg, li, cu⟩ = true from decide_eq_true ⟨by rw [← HN.out]; exact h12, h5, h6, h7⟩)
              clear h12 h5 h6 h7 hz
              go_wp2_with fail
              go_ret
              rw [HC.out]
              exact ⟨rfl, hI.out.2.1⟩
            · have e4 : decide ((cu.length : Int) ≤ 100) = false := decide_eq_false (by omega)
              have HC := Aside0.mk (show fewB l ⟨ge, ph, tg, tx, rt, pg, li, cu⟩ = false from decide_eq_false (fun q => h7 q.2.2.2))
              clear h12 h5 h6 h7 hz
              go_wp2_with fail
              go_ret
              rw [HC.out]
              exact ⟨rfl, hI.out.2.1⟩
          · have e3 : decide (pg ≤ 40) = false := decide_eq_false h6
            have HC := Aside0.mk (show fewB l ⟨ge, ph, tg, tx, rt, pg, li, cu⟩ = false from decide_eq_false (fun q => h6 q.2.2.1))
            clear h12 h5 h6 hz
            go_wp2_with fail
            go_ret
            rw [HC.out]
            exact ⟨rfl, hI.out.2.1⟩
        · have e2 : decide (z ≤ 5120) = false := decide_eq_false (by omega)
          have HC := Aside0.mk (show fewB l ⟨ge, ph, tg, tx, rt, pg, li, cu⟩ = false from decide_eq_false (fun q => h5 q.2.1))
          clear h12 h5 hz
          go_wp2_with fail
          go_ret
          rw [HC.out]
          exact ⟨rfl, hI.out.2.1⟩
      · have e1 : decide ((n : Int) ≤ 12) = false := decide_eq_false (by omega)
        have HC := Aside0.mk (show fewB l ⟨ge, ph, tg, tx, rt, pg, li, cu⟩ = false from decide_eq_false (fun q => h12 (by rw [HN.out]; exact q.1)))
        clear h12 hz
        go_wp2_with fail
        go_ret
        rw [HC.out]
        exact ⟨rfl, hI.out.2.1⟩
end Go.Proofs.Ythhalmjapiempaa
