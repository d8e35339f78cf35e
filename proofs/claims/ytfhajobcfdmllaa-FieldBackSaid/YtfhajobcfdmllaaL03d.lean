/- The walk of the law FieldBack. -/
import Derived.Test.YtfhajobcfdmllaaP3
import Derived.Test.YtfhajobcfdmllaaO3
import Derived.Deep.CutBlock
import Derived.Deep.RegionHeld3
set_option linter.unusedVariables false
set_option linter.unusedSimpArgs false
namespace Go.Proofs.Ytfhajobcfdmllaa
open Go.RowKit

theorem back_get (l : List OpV) (j n : Nat) (o : OpV) (hj : j < n) (hb : (encs l n).length ≤ 16384) (ho : l.getD j ⟨0, 0, 0, []⟩ = o) (h0 : o.k = 0) (hf : fitsB o.n o.wd = true) (bn : o.n ≤ 9223372036854775807) :
    getV (backS l n).xs.length (encs l j).length false o.wd (backS l n).xs = o.n ∧ getOk (backS l n).xs.length (encs l j).length false o.wd (backS l n).xs = true ∧ getA (backS l n).xs.length (encs l j).length false o.wd (backS l n).xs = (encs l (j + 1)).length := by
  have he : encO (l.getD j ⟨0, 0, 0, []⟩) = le8 o.n o.wd.toNat := by rw [ho]; unfold encO; rw [if_pos h0, if_pos hf]
  obtain ⟨d1, d2⟩ := back_drop l j n hj hb
  rw [he, le8_length] at d1 d2
  obtain ⟨k1, k2, k3, k4⟩ := of_decide_eq_true hf
  have hv := leN_back hf
  have hok : getOk (backS l n).xs.length (encs l j).length false o.wd (backS l n).xs = true := decide_eq_true ⟨rfl, k1, k2, by rw [backS_len l n hb]; omega, by rw [d1]; omega⟩
  refine ⟨?_, hok, ?_⟩
  · unfold getV
    rw [if_pos hok, d1]
    exact hv
  · unfold getA
    rw [if_pos hok, encs, he, List.length_append, le8_length]

set_option maxHeartbeats 4000000 in
set_option maxRecDepth 100000 in
theorem fieldBack_walk (A : Option Addr) (n c : Nat) (l : List OpV) (w : World) (hl : Ops w A n c l) :
    Calls Try.prog 5 #[.slice A n c] w fun e w' => e = .returned (.bool true) ∧ Below w.heap.size w w' := by
  have HL := Aside0.mk hl
  clear hl
  have hlim := HL.out.lim
  cases hf : decide (n ≤ 100 ∧ totW l n ≤ 4000) with
  | false =>
    go_enter Try.func5, Try.ntmps5
    go_wp2_with (first
      | (go_at_call 14; refine (few_any A n c l w HL.out).mono ?_; rintro e w1 ⟨rfl, hB1⟩; rw [hf])
      | (go_at_call 11; refine (alive03_any _).mono ?_; rintro e w2 ⟨rfl, hB2⟩))
    go_ret
    exact ⟨rfl, below_then hB1 hB1.size hB2⟩
  | true =>
    obtain ⟨b1, b2⟩ := of_decide_eq_true hf
    have hbound : (encs l n).length ≤ 16384 := by
      obtain ⟨t1, t2⟩ := totW_tot l HL.out.ysLe n b1
      have := encs_len l n
      omega
    have HBD := Aside0.mk hbound
    clear hbound b1 b2
    go_enter Try.func5, Try.ntmps5
    go_wp2_with (first
      | (go_at_call 14; refine (few_any A n c l w HL.out).mono ?_; rintro e w1 ⟨rfl, hB1⟩; rw [hf])
      | (go_at_call 15; refine (newWriter_any 16384 w1).mono ?_; rintro e w2 ⟨g, g2, rfl, hg, hg2, hne, hgl, hc, hO, hB2⟩))
    have hW0 : WI w g g2 16384 (backS l 0) w2 := by
      have e0 : backS l 0 = ⟨0, false, List.replicate 16384 0⟩ := by unfold backS; rw [encs, putL_nil]; rfl
      have en : nwN 16384 = 16384 := by decide
      have z1 := hB1.size
      rw [en] at hc hO
      rw [e0]
      refine ⟨⟨?_, ?_, hne, by omega, by omega⟩, below_then hB1 z1 hB2⟩
      · show Cur _ _ _ _ (List.replicate 16384 (0 : UInt8)).length _ _ _
        rw [List.length_replicate]
        exact hc
      · show Ow _ _ _ (List.replicate 16384 (0 : UInt8)).length _ _
        rw [List.length_replicate]
        exact hO.mono z1
    have HW0 := Aside0.mk hW0
    clear hW0 hc hO hB1 hB2 hg hg2 hgl hne
    go_loopg [20] n (fun k v wr => ∃ j : Nat, Aside (k + j = n) ∧ v = .int .i64 (j : Int) ∧ Aside0 (WI w g g2 16384 (backS l j) wr))
    case atStart => exact ⟨0, rfl, rfl, HW0⟩
    case round =>
      obtain ⟨j, hk, rfl, hI⟩ := hrel
      have hjb : j ≤ n := by have := hk.out; omega
      by_cases hlt : j < n
      · obtain ⟨ad, rfl, B, m, d, hop⟩ := HL.out.atN j hlt
        have hy0 := hop.row.lt
        replace hop := hop.below hI.out.bel
        have hb1 : (encs l (j + 1)).length ≤ 16384 := Nat.le_trans (encs_le l (by omega)) HBD.out
        obtain ⟨o, ho⟩ : ∃ o, l.getD j ⟨0, 0, 0, []⟩ = o := ⟨_, rfl⟩
        rw [ho] at hop
        obtain ⟨c0, c1, c2, c3, hrow, bk, bn, bw⟩ := hop
        have hjn : (j : Int) < (n : Int) := by omega
        have hI1 := hI.out.step ((Below.refl _ _).alloc (Nat.le_refl _) (.cells #[.int .i64 o.k, .int .i64 o.n, .int .i64 o.wd, .slice B m d] 33))
        have hbx := heap_alloc_new wr (.cells #[.int .i64 o.k, .int .i64 o.n, .int .i64 o.wd, .slice B m d] 33)
        have hy1 := hrow.alloc (.cells #[.int .i64 o.k, .int .i64 o.n, .int .i64 o.wd, .slice B m d] 33)
        obtain ⟨W1, hW1⟩ : ∃ W1, wr.alloc (.cells #[.int .i64 o.k, .int .i64 o.n, .int .i64 o.wd, .slice B m d] 33) = W1 := ⟨_, rfl⟩
        rw [hW1] at hI1 hbx hy1
        obtain ⟨N8, hN8⟩ : ∃ N8, wr.heap.size = N8 := ⟨_, rfl⟩
        rw [hN8] at hbx
        have e1 : N8 ≠ g := by have := hI.out.wr.lt.1; omega
        have e2 : N8 ≠ g2 := by have := hI.out.wr.lt.2; omega
        have hg1 : ∀ ad, B = some ad → 0 < m → ad.block ≠ g := fun ad e h0 => by have := hy0 ad e h0; have := hI1.wr.lo; omega
        have hg2 : ∀ ad, B = some ad → 0 < m → ad.block ≠ g2 := fun ad e h0 => by have := hy0 ad e h0; have := hI1.wr.lo2; omega
        have HG := Aside0.mk (And.intro hg1 (And.intro hg2 (And.intro hb1 ho)))
        have H1 := Aside0.mk (And.intro hI1 (And.intro hbx hy1))
        obtain ⟨b0, b1, b2, b3⟩ := row4_cells' hbx
        clear hy0 hg1 hg2 hI1 hbx hy1 hb1 ho
        by_cases q0 : o.k = 0
        · have f0 : (o.k == 0) = true := by simp [q0]
          have f1 : (o.k == 1) = false := by simp [q0]
          have hq0 := Aside0.mk q0
          clear q0
          cases hfb : fitsB o.n o.wd with
          | true =>
            go_wp2_with (first
              | (go_at_call 13; refine (rfits_any o.n o.wd _ bn).mono ?_; rintro e w4 ⟨rfl, rfl⟩; rw [hfb])
              | (go_at_call 17; refine (put_any w.heap.size g g2 16384 _ o.n o.wd W1 bn H1.out.1.wr).mono ?_; rintro e w5 ⟨rfl, hW5, hO5, hs5⟩; (have hI5 := H1.out.1.writer hO5 hW5); (have p5 := (hO5.block N8 (Array.getElem?_eq_some_iff.1 H1.out.2.1).1 e1 e2).trans H1.out.2.1); clear b0 b1 b2 b3; obtain ⟨b0, b1, b2, b3⟩ := row4_cells' p5; rw [back_putS l j o HG.out.2.2.2 hq0.out hfb HG.out.2.2.1] at hI5; (have H5 := Aside0.mk hI5); clear hI5 p5 hW5 hO5 hs5))
            go_roundg (n - (j + 1))
            case measure => have := hk.out; omega
            case rel => exact ⟨j + 1, by have := hk.out; exact (show n - (j + 1) + (j + 1) = n by omega), by go_num, H5⟩
          | false =>
            have hz := back_none l j (by rw [HG.out.2.2.2]; unfold encO; rw [if_pos hq0.out, hfb]; rfl)
            have HZ := Aside0.mk hz
            clear hz
            go_wp2_with (go_at_call 13; refine (rfits_any o.n o.wd _ bn).mono ?_; rintro e w4 ⟨rfl, rfl⟩; rw [hfb])
            go_roundg (n - (j + 1))
            case measure => have := hk.out; omega
            case rel => exact ⟨j + 1, by have := hk.out; exact (show n - (j + 1) + (j + 1) = n by omega), by go_num, by rw [HZ.out]; exact ⟨H1.out.1⟩⟩
        · have f0 : (o.k == 0) = false := by simp [q0]
          by_cases q1 : o.k = 1
          · have f1 : (o.k == 1) = true := by simp [q1]
            have hq1 := Aside0.mk q1
            clear q0 q1
            go_wp2_with (go_at_call 19; refine (wbytes_any w.heap.size g g2 16384 _ B m d o.ys W1 H1.out.1.wr H1.out.2.2 HG.out.1 HG.out.2.1).mono ?_; rintro e w5 ⟨rfl, hW5, hO5, hs5⟩; (have hI5 := H1.out.1.writer hO5 hW5); rw [back_bytesS l j o HG.out.2.2.2 hq1.out HG.out.2.2.1] at hI5; (have H5 := Aside0.mk hI5); clear hI5 hW5 hO5 hs5)
            go_roundg (n - (j + 1))
            case measure => have := hk.out; omega
            case rel => exact ⟨j + 1, by have := hk.out; exact (show n - (j + 1) + (j + 1) = n by omega), by go_num, H5⟩
          · have f1 : (o.k == 1) = false := by simp [q1]
            have hz := back_none l j (by rw [HG.out.2.2.2]; unfold encO; rw [if_neg q0, if_neg q1])
            have HZ := Aside0.mk hz
            clear hz q0 q1
            go_wp2_with fail
            go_roundg (n - (j + 1))
            case measure => have := hk.out; omega
            case rel => exact ⟨j + 1, by have := hk.out; exact (show n - (j + 1) + (j + 1) = n by omega), by go_num, by rw [HZ.out]; exact ⟨H1.out.1⟩⟩
      · obtain rfl : n = j := by omega
        clear hk hjb hlt
        obtain ⟨xs, hxs⟩ : ∃ xs, (backS l n).xs = xs := ⟨_, rfl⟩
        have hs : backS l n = ⟨(encs l n).length, false, xs⟩ := by rw [← hxs]; rfl
        have hxl : xs.length = 16384 := by rw [← hxs]; exact backS_len l n HBD.out
        rw [hs] at hI
        have HX := Aside0.mk (And.intro hxs hxl)
        clear hxs hxl hs
        generalize wr = wq at hI ⊢
        go_wp2_with (first
          | (go_at_call 23; refine (done_any g _ _ _ _ false xs wq hI.out.wr.cur hI.out.wr.own.bs).mono ?_; rintro e w4 ⟨A3, c3, rfl, hO4, hB4⟩; rw [show doneE false = 0 from rfl, show doneB false xs = xs from rfl] at *)
          | (go_at_call 26; refine (newReader_any A3 _ c3 xs w4 hO4.bs).mono ?_; rintro e w5 ⟨gr, A1, c1, rfl, hgr, hne5, hc5, hO5, hB5⟩))
        have hR : RI w g g2 16384 gr A1 c1 ⟨(encs l n).length, false, xs⟩ (encs l 0).length false xs w5 := by
          have z1 := hI.out.bel.size
          have z2 := hB4.size
          have z3 := hI.out.wr.lt
          exact ⟨(hI.out.step hB4).step hB5, hc5, hO5.bs, hne5, by omega, by omega, by omega, fun ad e h0 => by
            obtain ⟨k, e1, e2, _⟩ := hO5.head h0
            rw [e1] at e
            injection e with e
            subst e
            exact ⟨(show k ≠ g by omega), (show k ≠ g2 by omega)⟩⟩
        have HR := Aside0.mk hR
        clear hR hI hO4 hB4 hgr hne5 hc5 hO5 hB5
        go_loopg [63] n (fun k v wr => ∃ j : Nat, Aside (k + j = n) ∧ v = .int .i64 (j : Int) ∧ Aside0 (RI w g g2 16384 gr A1 c1 ⟨(encs l n).length, false, xs⟩ (encs l j).length false xs wr))
        case atStart => exact ⟨0, rfl, rfl, HR⟩
        case round =>
          obtain ⟨j, hk, rfl, hI⟩ := hrel
          have hjb : j ≤ n := by have := hk.out; omega
          by_cases hlt : j < n
          · obtain ⟨ad, rfl, B, m, d, hop⟩ := HL.out.atN j hlt
            have hy0 := hop.row.lt
            replace hop := hop.below hI.out.wi.bel
            obtain ⟨o, ho⟩ : ∃ o, l.getD j ⟨0, 0, 0, []⟩ = o := ⟨_, rfl⟩
            rw [ho] at hop
            obtain ⟨c0, c1', c2, c3, hrow, bk, bn, bw⟩ := hop
            have hjn : (j : Int) < (n : Int) := by omega
            have hI1 := (hI.out.step ((Below.refl _ _).alloc (Nat.le_refl _) (.cells #[.int .i64 o.k, .int .i64 o.n, .int .i64 o.wd, .slice B m d] 33))).step (below_drew (Below.refl _ _))
            have hbx := heap_alloc_new wr (.cells #[.int .i64 o.k, .int .i64 o.n, .int .i64 o.wd, .slice B m d] 33)
            have hy1 := (hrow.alloc (.cells #[.int .i64 o.k, .int .i64 o.n, .int .i64 o.wd, .slice B m d] 33)).drew
            obtain ⟨W1, hW1⟩ : ∃ W1, wr.alloc (.cells #[.int .i64 o.k, .int .i64 o.n, .int .i64 o.wd, .slice B m d] 33) = W1 := ⟨_, rfl⟩
            rw [hW1] at hI1 hbx hy1
            obtain ⟨N8, hN8⟩ : ∃ N8, wr.heap.size = N8 := ⟨_, rfl⟩
            rw [hN8] at hbx
            have e1 : N8 ≠ gr := by have := hI.out.lt; omega
            have hg1 : ∀ ad, B = some ad → 0 < m → ad.block ≠ gr := fun ad e h0 => by have := hy0 ad e h0; have := hI1.n0; omega
            have HG := Aside0.mk (And.intro hg1 ho)
            have H1 := Aside0.mk (And.intro hI1 (And.intro hbx hy1))
            obtain ⟨b0, b1, b2, b3⟩ := row4_cells' hbx
            clear hy0 hg1 hI1 hbx hy1 ho hI
            by_cases q0 : o.k = 0
            · cases hfb : fitsB o.n o.wd with
              | true =>
                obtain ⟨v1, v2, v3⟩ := back_get l j n o hlt HBD.out HG.out.2 q0 hfb bn.2
                rw [HX.out.1] at v1 v2 v3
                obtain ⟨ok, on, owd, oys⟩ := o
                dsimp only at q0
                subst q0
                dsimp only at *
                go_upto_region 21 with fail
                refine wp_region_held_drew (S := (fun w' => w'.cell? ⟨N8, 0, none⟩ = some (.int .i64 0) ∧ w'.cell? ⟨N8, 1, none⟩ = some (.int .i64 on) ∧ w'.cell? ⟨N8, 2, none⟩ = some (.int .i64 owd) ∧ w'.cell? ⟨N8, 3, none⟩ = some (.slice B m d))) (by kernel_rfl) ⟨b0, b1, b2, b3⟩ (fun hHeld => ?_)
                refine wpAnyH_take (i := 0) (v := ?_) (by simp only [List.getElem?_toArray, List.getElem?_cons_succ, List.getElem?_cons_zero]; rfl) (by kernel_rfl) (by kernel_rfl) (by kernel_rfl) (by exact fun _ _ _ h => h) (Or.inl ⟨by rfl, ?_⟩) hHeld ?_
                rotate_left
                · (intro w' hSw; (try dsimp only at hSw); go_simp; try with_reducible rfl)
                try simp only [Act.put, List.setIfInBounds_toArray, List.set_cons_zero, List.set_cons_succ]
                refine wpAnyH_take (i := 1) (v := ?_) (by simp only [List.getElem?_toArray, List.getElem?_cons_succ, List.getElem?_cons_zero]; rfl) (by kernel_rfl) (by kernel_rfl) (by kernel_rfl) (by exact fun _ _ _ h => h) (Or.inl ⟨by rfl, ?_⟩) hHeld ?_
                rotate_left
                · (intro w' hSw; (try dsimp only at hSw); go_simp; try with_reducible rfl)
                try simp only [Act.put, List.setIfInBounds_toArray, List.set_cons_zero, List.set_cons_succ]
                refine wpAnyH_take (i := 2) (v := ?_) (by simp only [List.getElem?_toArray, List.getElem?_cons_succ, List.getElem?_cons_zero]; rfl) (by kernel_rfl) (by kernel_rfl) (by kernel_rfl) (by exact fun _ _ _ h => h) (Or.inl ⟨by rfl, ?_⟩) hHeld ?_
                rotate_left
                · (intro w' hSw; (try dsimp only at hSw); go_simp; try with_reducible rfl)
                try simp only [Act.put, List.setIfInBounds_toArray, List.set_cons_zero, List.set_cons_succ]
                refine wpAnyH_take (i := 3) (v := ?_) (by simp only [List.getElem?_toArray, List.getElem?_cons_succ, List.getElem?_cons_zero]; rfl) (by kernel_rfl) (by kernel_rfl) (by kernel_rfl) (by exact fun _ _ _ h => h) (Or.inl ⟨by rfl, ?_⟩) hHeld ?_
                rotate_left
                · (intro w' hSw; (try dsimp only at hSw); go_simp; try with_reducible rfl)
                try simp only [Act.put, List.setIfInBounds_toArray, List.set_cons_zero, List.set_cons_succ]
                refine wpAnyH_take (i := 4) (v := ?_) (by simp only [List.getElem?_toArray, List.getElem?_cons_succ, List.getElem?_cons_zero]; rfl) (by kernel_rfl) (by kernel_rfl) (by kernel_rfl) (by exact fun _ _ _ h => h) (Or.inl ⟨by rfl, ?_⟩) hHeld ?_
                rotate_left
                · (intro w' hSw; (try dsimp only at hSw); go_simp; try with_reducible rfl)
                try simp only [Act.put, List.setIfInBounds_toArray, List.set_cons_zero, List.set_cons_succ]
                refine wpAnyH_take (i := 5) (v := ?_) (by simp only [List.getElem?_toArray, List.getElem?_cons_succ, List.getElem?_cons_zero]; rfl) (by kernel_rfl) (by kernel_rfl) (by kernel_rfl) (by exact fun _ _ _ h => h) (Or.inl ⟨by rfl, ?_⟩) hHeld ?_
                rotate_left
                · (intro w' hSw; (try dsimp only at hSw); go_simp; try with_reducible rfl)
                try simp only [Act.put, List.setIfInBounds_toArray, List.set_cons_zero, List.set_cons_succ]
                refine wpAnyH_take (i := 6) (v := ?_) (by simp only [List.getElem?_toArray, List.getElem?_cons_succ, List.getElem?_cons_zero]; rfl) (by kernel_rfl) (by kernel_rfl) (by kernel_rfl) (by exact fun _ _ _ h => h) (Or.inl ⟨by rfl, ?_⟩) hHeld ?_
                rotate_left
                · (intro w' hSw; (try dsimp only at hSw); go_simp; try with_reducible rfl)
                try simp only [Act.put, List.setIfInBounds_toArray, List.set_cons_zero, List.set_cons_succ]
                refine wpAnyH_take (i := 7) (v := ?_) (by simp only [List.getElem?_toArray, List.getElem?_cons_succ, List.getElem?_cons_zero]; rfl) (by kernel_rfl) (by kernel_rfl) (by kernel_rfl) (by exact fun _ _ _ h => h) (Or.inl ⟨by rfl, ?_⟩) hHeld ?_
                rotate_left
                · (intro w' hSw; (try dsimp only at hSw); go_simp; try with_reducible rfl)
                try simp only [Act.put, List.setIfInBounds_toArray, List.set_cons_zero, List.set_cons_succ]
                refine wpAnyH_ready (rs := [8]) (by kernel_rfl) (by simp) ?_
                refine AllReadyH.cons (by simp only [List.getElem?_toArray, List.getElem?_cons_succ, List.getElem?_cons_zero]; rfl) (fun K hK => ?_) AllReadyH.nil
                rw [if_pos (by rfl)]
                go_simp
                refine (rfits_any on owd _ bn).mono ?_
                rintro e w4 ⟨rfl, rfl⟩
                rw [hfb]
                dsimp only
                refine hK.out _ _ ⟨b0, b1, b2, b3⟩ (fun hHeld => ?_)
                clear hK K
                try simp only [Act.put, List.setIfInBounds_toArray, List.set_cons_zero, List.set_cons_succ]
                refine wpAnyH_take (i := 9) (v := ?_) (by simp only [List.getElem?_toArray, List.getElem?_cons_succ, List.getElem?_cons_zero]; rfl) (by kernel_rfl) (by kernel_rfl) (by kernel_rfl) (by exact fun _ _ _ h => h) (Or.inl ⟨by rfl, ?_⟩) hHeld ?_
                rotate_left
                · (intro w' hSw; (try dsimp only at hSw); go_simp; try with_reducible rfl)
                try simp only [Act.put, List.setIfInBounds_toArray, List.set_cons_zero, List.set_cons_succ]
                refine wpAnyH_take (i := 10) (v := ?_) (by simp only [List.getElem?_toArray, List.getElem?_cons_succ, List.getElem?_cons_zero]; rfl) (by kernel_rfl) (by kernel_rfl) (by kernel_rfl) (by exact fun _ _ _ h => h) (Or.inl ⟨by rfl, ?_⟩) hHeld ?_
                rotate_left
                · (intro w' hSw; (try dsimp only at hSw); go_simp; try with_reducible rfl)
                try simp only [Act.put, List.setIfInBounds_toArray, List.set_cons_zero, List.set_cons_succ]
                refine wpAnyH_take (i := 11) (v := ?_) (by simp only [List.getElem?_toArray, List.getElem?_cons_succ, List.getElem?_cons_zero]; rfl) (by kernel_rfl) (by kernel_rfl) (by kernel_rfl) (by exact fun _ _ _ h => h) (Or.inl ⟨by rfl, ?_⟩) hHeld ?_
                rotate_left
                · (intro w' hSw; (try dsimp only at hSw); go_simp; try with_reducible rfl)
                try simp only [Act.put, List.setIfInBounds_toArray, List.set_cons_zero, List.set_cons_succ]
                refine wpAnyH_take (i := 12) (v := ?_) (by simp only [List.getElem?_toArray, List.getElem?_cons_succ, List.getElem?_cons_zero]; rfl) (by kernel_rfl) (by kernel_rfl) (by kernel_rfl) (by exact fun _ _ _ h => h) (Or.inl ⟨by rfl, ?_⟩) hHeld ?_
                rotate_left
                · (intro w' hSw; (try dsimp only at hSw); go_simp; try with_reducible rfl)
                try simp only [Act.put, List.setIfInBounds_toArray, List.set_cons_zero, List.set_cons_succ]
                refine wpAnyH_take (i := 13) (v := ?_) (by simp only [List.getElem?_toArray, List.getElem?_cons_succ, List.getElem?_cons_zero]; rfl) (by kernel_rfl) (by kernel_rfl) (by kernel_rfl) (by exact fun _ _ _ h => h) (Or.inl ⟨by rfl, ?_⟩) hHeld ?_
                rotate_left
                · (intro w' hSw; (try dsimp only at hSw); go_simp; try with_reducible rfl)
                try simp only [Act.put, List.setIfInBounds_toArray, List.set_cons_zero, List.set_cons_succ]
                refine wpAnyH_take (i := 15) (v := ?_) (by simp only [List.getElem?_toArray, List.getElem?_cons_succ, List.getElem?_cons_zero]; rfl) (by kernel_rfl) (by kernel_rfl) (by kernel_rfl) (by exact fun _ _ _ h => h) (Or.inl ⟨by rfl, ?_⟩) hHeld ?_
                rotate_left
                · (intro w' hSw; (try dsimp only at hSw); go_simp; try with_reducible rfl)
                try simp only [Act.put, List.setIfInBounds_toArray, List.set_cons_zero, List.set_cons_succ]
                refine wpAnyH_take (i := 16) (v := ?_) (by simp only [List.getElem?_toArray, List.getElem?_cons_succ, List.getElem?_cons_zero]; rfl) (by kernel_rfl) (by kernel_rfl) (by kernel_rfl) (by exact fun _ _ _ h => h) (Or.inl ⟨by rfl, ?_⟩) hHeld ?_
                rotate_left
                · (intro w' hSw; (try dsimp only at hSw); go_simp; try with_reducible rfl)
                try simp only [Act.put, List.setIfInBounds_toArray, List.set_cons_zero, List.set_cons_succ]
                refine wpAnyH_ready (rs := [14]) (by kernel_rfl) (by simp) ?_
                refine AllReadyH.cons (by simp only [List.getElem?_toArray, List.getElem?_cons_succ, List.getElem?_cons_zero]; rfl) (fun K hK => ?_) AllReadyH.nil
                rw [if_pos (by rfl)]
                go_simp
                refine (get_any gr A1 _ c1 _ false xs owd _ H1.out.1.cur H1.out.1.row H1.out.1.ne).mono ?_
                rintro e w6 ⟨rfl, ho6, hc6⟩
                rw [v1]
                rw [v2, v3] at hc6
                have hI6 := H1.out.1.go ho6 hc6
                have p6 := (ho6.block N8 (Array.getElem?_eq_some_iff.1 H1.out.2.1).1 e1).trans H1.out.2.1
                clear b0 b1 b2 b3
                obtain ⟨b0, b1, b2, b3⟩ := row4_cells' p6
                have H6 := Aside0.mk hI6
                clear hI6 p6 ho6 hc6
                dsimp only
                refine hK.out _ _ ⟨b0, b1, b2, b3⟩ (fun hHeld => ?_)
                clear hK K
                try simp only [Act.put, List.setIfInBounds_toArray, List.set_cons_zero, List.set_cons_succ]
                refine wpAnyH_take (i := 17) (v := ?_) (by simp only [List.getElem?_toArray, List.getElem?_cons_succ, List.getElem?_cons_zero]; rfl) (by kernel_rfl) (by kernel_rfl) (by kernel_rfl) (by exact fun _ _ _ h => h) (Or.inl ⟨by rfl, ?_⟩) hHeld ?_
                rotate_left
                · (intro w' hSw; (try dsimp only at hSw); go_simp; try with_reducible rfl)
                try simp only [Act.put, List.setIfInBounds_toArray, List.set_cons_zero, List.set_cons_succ]
                refine wpAnyH_take (i := 18) (v := ?_) (by simp only [List.getElem?_toArray, List.getElem?_cons_succ, List.getElem?_cons_zero]; rfl) (by kernel_rfl) (by kernel_rfl) (by kernel_rfl) (by exact fun _ _ _ h => h) (Or.inl ⟨by rfl, ?_⟩) hHeld ?_
                rotate_left
                · (intro w' hSw; (try dsimp only at hSw); go_simp; try with_reducible rfl)
                try simp only [Act.put, List.setIfInBounds_toArray, List.set_cons_zero, List.set_cons_succ]
                refine wpAnyH_take (i := 19) (v := ?_) (by simp only [List.getElem?_toArray, List.getElem?_cons_succ, List.getElem?_cons_zero]; rfl) (by kernel_rfl) (by kernel_rfl) (by kernel_rfl) (by exact fun _ _ _ h => h) (Or.inl ⟨by rfl, ?_⟩) hHeld ?_
                rotate_left
                · (intro w' hSw; (try dsimp only at hSw); go_simp; try with_reducible rfl)
                try simp only [Act.put, List.setIfInBounds_toArray, List.set_cons_zero, List.set_cons_succ]
                refine wpAnyH_take (i := 20) (v := ?_) (by simp only [List.getElem?_toArray, List.getElem?_cons_succ, List.getElem?_cons_zero]; rfl) (by kernel_rfl) (by kernel_rfl) (by kernel_rfl) (by exact fun _ _ _ h => h) (Or.inl ⟨by rfl, ?_⟩) hHeld ?_
                rotate_left
                · (intro w' hSw; (try dsimp only at hSw); go_simp; try with_reducible rfl)
                try simp only [Act.put, List.setIfInBounds_toArray, List.set_cons_zero, List.set_cons_succ]
                refine wpAnyH_take (i := 21) (v := ?_) (by simp only [List.getElem?_toArray, List.getElem?_cons_succ, List.getElem?_cons_zero]; rfl) (by kernel_rfl) (by kernel_rfl) (by kernel_rfl) (by exact fun _ _ _ h => h) (Or.inl ⟨by rfl, ?_⟩) hHeld ?_
                rotate_left
                · (intro w' hSw; (try dsimp only at hSw); go_simp; try with_reducible rfl)
                try simp only [Act.put, List.setIfInBounds_toArray, List.set_cons_zero, List.set_cons_succ]
                refine wpAnyH_take (i := 22) (v := ?_) (by simp only [List.getElem?_toArray, List.getElem?_cons_succ, List.getElem?_cons_zero]; rfl) (by kernel_rfl) (by kernel_rfl) (by kernel_rfl) (by exact fun _ _ _ h => h) (Or.inl ⟨by rfl, ?_⟩) hHeld ?_
                rotate_left
                · (intro w' hSw; (try dsimp only at hSw); go_simp; try with_reducible rfl)
                try simp only [Act.put, List.setIfInBounds_toArray, List.set_cons_zero, List.set_cons_succ]
                refine wpAnyH_take (i := 23) (v := ?_) (by simp only [List.getElem?_toArray, List.getElem?_cons_succ, List.getElem?_cons_zero]; rfl) (by kernel_rfl) (by kernel_rfl) (by kernel_rfl) (by exact fun _ _ _ h => h) (Or.inl ⟨by rfl, ?_⟩) hHeld ?_
                rotate_left
                · (intro w' hSw; (try dsimp only at hSw); go_simp; try with_reducible rfl)
                try simp only [Act.put, List.setIfInBounds_toArray, List.set_cons_zero, List.set_cons_succ]
                refine wpAnyH_take (i := 24) (v := undef) (by simp only [List.getElem?_toArray, List.getElem?_cons_succ, List.getElem?_cons_zero]; rfl) (by kernel_rfl) (by kernel_rfl) (by kernel_rfl) (by exact fun _ _ _ h => h) (Or.inr ⟨by rfl, rfl⟩) hHeld ?_
                try simp only [Act.put, List.setIfInBounds_toArray, List.set_cons_zero, List.set_cons_succ]
                refine wpAnyH_take (i := 25) (v := undef) (by simp only [List.getElem?_toArray, List.getElem?_cons_succ, List.getElem?_cons_zero]; rfl) (by kernel_rfl) (by kernel_rfl) (by kernel_rfl) (by exact fun _ _ _ h => h) (Or.inr ⟨by rfl, rfl⟩) hHeld ?_
                try simp only [Act.put, List.setIfInBounds_toArray, List.set_cons_zero, List.set_cons_succ]
                refine wpAnyH_take (i := 26) (v := undef) (by simp only [List.getElem?_toArray, List.getElem?_cons_succ, List.getElem?_cons_zero]; rfl) (by kernel_rfl) (by kernel_rfl) (by kernel_rfl) (by exact fun _ _ _ h => h) (Or.inr ⟨by rfl, rfl⟩) hHeld ?_
                try simp only [Act.put, List.setIfInBounds_toArray, List.set_cons_zero, List.set_cons_succ]
                refine wpAnyH_take (i := 27) (v := undef) (by simp only [List.getElem?_toArray, List.getElem?_cons_succ, List.getElem?_cons_zero]; rfl) (by kernel_rfl) (by kernel_rfl) (by kernel_rfl) (by exact fun _ _ _ h => h) (Or.inr ⟨by rfl, rfl⟩) hHeld ?_
                try simp only [Act.put, List.setIfInBounds_toArray, List.set_cons_zero, List.set_cons_succ]
                refine wpAnyH_take (i := 28) (v := undef) (by simp only [List.getElem?_toArray, List.getElem?_cons_succ, List.getElem?_cons_zero]; rfl) (by kernel_rfl) (by kernel_rfl) (by kernel_rfl) (by exact fun _ _ _ h => h) (Or.inr ⟨by rfl, rfl⟩) hHeld ?_
                try simp only [Act.put, List.setIfInBounds_toArray, List.set_cons_zero, List.set_cons_succ]
                refine wpAnyH_take (i := 29) (v := undef) (by simp only [List.getElem?_toArray, List.getElem?_cons_succ, List.getElem?_cons_zero]; rfl) (by kernel_rfl) (by kernel_rfl) (by kernel_rfl) (by exact fun _ _ _ h => h) (Or.inr ⟨by rfl, rfl⟩) hHeld ?_
                try simp only [Act.put, List.setIfInBounds_toArray, List.set_cons_zero, List.set_cons_succ]
                refine wpAnyH_take (i := 30) (v := undef) (by simp only [List.getElem?_toArray, List.getElem?_cons_succ, List.getElem?_cons_zero]; rfl) (by kernel_rfl) (by kernel_rfl) (by kernel_rfl) (by exact fun _ _ _ h => h) (Or.inr ⟨by rfl, rfl⟩) hHeld ?_
                try simp only [Act.put, List.setIfInBounds_toArray, List.set_cons_zero, List.set_cons_succ]
                refine wpAnyH_take (i := 31) (v := undef) (by simp only [List.getElem?_toArray, List.getElem?_cons_succ, List.getElem?_cons_zero]; rfl) (by kernel_rfl) (by kernel_rfl) (by kernel_rfl) (by exact fun _ _ _ h => h) (Or.inr ⟨by rfl, rfl⟩) hHeld ?_
                try simp only [Act.put, List.setIfInBounds_toArray, List.set_cons_zero, List.set_cons_succ]
                refine wpAnyH_take (i := 32) (v := undef) (by simp only [List.getElem?_toArray, List.getElem?_cons_succ, List.getElem?_cons_zero]; rfl) (by kernel_rfl) (by kernel_rfl) (by kernel_rfl) (by exact fun _ _ _ h => h) (Or.inr ⟨by rfl, rfl⟩) hHeld ?_
                try simp only [Act.put, List.setIfInBounds_toArray, List.set_cons_zero, List.set_cons_succ]
                refine wpAnyH_take (i := 33) (v := ?_) (by simp only [List.getElem?_toArray, List.getElem?_cons_succ, List.getElem?_cons_zero]; rfl) (by kernel_rfl) (by kernel_rfl) (by kernel_rfl) (by exact fun _ _ _ h => h) (Or.inl ⟨by rfl, ?_⟩) hHeld ?_
                rotate_left
                · (intro w' hSw; (try dsimp only at hSw); go_simp; try with_reducible rfl)
                try simp only [Act.put, List.setIfInBounds_toArray, List.set_cons_zero, List.set_cons_succ]
                refine wpAnyH_take (i := 34) (v := ?_) (by simp only [List.getElem?_toArray, List.getElem?_cons_succ, List.getElem?_cons_zero]; rfl) (by kernel_rfl) (by kernel_rfl) (by kernel_rfl) (by exact fun _ _ _ h => h) (Or.inl ⟨by rfl, ?_⟩) hHeld ?_
                rotate_left
                · (intro w' hSw; (try dsimp only at hSw); go_simp; try with_reducible rfl)
                try simp only [Act.put, List.setIfInBounds_toArray, List.set_cons_zero, List.set_cons_succ]
                refine wpAnyH_done (by kernel_rfl) ?_ _
                go_wp2
                go_roundg (n - (j + 1))
                case measure => have := hk.out; omega
                case rel => exact ⟨j + 1, by have := hk.out; exact (show n - (j + 1) + (j + 1) = n by omega), by go_num, H6⟩
              | false =>
                have f0 : (o.k == 0) = true := by simp [q0]
                have f1 : (o.k == 1) = false := by simp [q0]
                have hz : (encs l (j + 1)).length = (encs l j).length := by rw [encs, HG.out.2]; unfold encO; rw [if_pos q0, hfb]; simp
                have HZ := Aside0.mk hz
                clear hz q0
                go_upto_region 21 with fail
                refine wp_region_ext (by kernel_rfl) (by kernel_rfl) ?_
                have x0 := cell_ext b0
                have x1 := cell_ext b1
                have x2 := cell_ext b2
                have x3 := cell_ext b3
                repeat (go_big_quiet_step ((go_at_call 13; exact Calls.ext_same (hfb ▸ rfits_any o.n o.wd _ bn))))
                refine wpQuiet_nil ?_
                rintro w' ⟨kx, rfl⟩
                have HE := Aside0.mk (H1.out.1.step (W1 := kx.w) ⟨kx.bel.os, kx.bel.tape, kx.bel.output, kx.bel.size, kx.bel.block⟩)
                clear H1 HG b0 b1 b2 b3 x0 x1 x2 x3
                go_wp2
                go_roundg (n - (j + 1))
                case measure => have := hk.out; omega
                case rel => exact ⟨j + 1, by have := hk.out; exact (show n - (j + 1) + (j + 1) = n by omega), by go_num, by rw [HZ.out]; exact HE⟩
            · have f0 : (o.k == 0) = false := by simp [q0]
              by_cases q1 : o.k = 1
              · obtain ⟨ok, on, owd, oys⟩ := o
                dsimp only at q1
                subst q1
                dsimp only at *
                have e0 : (oys == oys) = true := by simp
                have HV := Aside0.mk (show ∀ w6 ys, ((false = true ∨ (m : Int) < 0 ∨ (xs.length : Int) - ((encs l j).length : Nat) < (m : Int)) ∧ Cur w6 gr 55 A1 xs.length c1 (encs l j).length true ∧ ys = [] ∨ false = false ∧ 0 ≤ (m : Int) ∧ (encs l j).length + (m : Int).toNat ≤ xs.length ∧ Cur w6 gr 55 A1 xs.length c1 ((encs l j).length + (m : Int).toNat) false ∧ ys = (xs.drop (encs l j).length).take (m : Int).toNat) → Cur w6 gr 55 A1 xs.length c1 (encs l (j + 1)).length false ∧ ys = oys from by
                  intro w6 ys h
                  have he : encO (l.getD j ⟨0, 0, 0, []⟩) = oys := by rw [HG.out.2]; rfl
                  obtain ⟨d1, d2⟩ := back_drop l j n hlt HBD.out
                  rw [he, HX.out.1] at d1
                  rw [he] at d2
                  have hml := H1.out.2.2.len
                  rw [Int.toNat_natCast] at h
                  rcases h with ⟨h | h | h, _⟩ | ⟨_, _, h3, h4, h5⟩
                  · cases h
                  · omega
                  · have := HX.out.2; have := HBD.out; omega
                  · rw [encs, he, List.length_append, hml]
                    rw [← hml, d1] at h5
                    exact ⟨h4, h5⟩)
                go_upto_region 21 with fail
                refine wp_region_held_drew (S := (fun w' => w'.cell? ⟨N8, 0, none⟩ = some (.int .i64 1) ∧ w'.cell? ⟨N8, 1, none⟩ = some (.int .i64 on) ∧ w'.cell? ⟨N8, 2, none⟩ = some (.int .i64 owd) ∧ w'.cell? ⟨N8, 3, none⟩ = some (.slice B m d))) (by kernel_rfl) ⟨b0, b1, b2, b3⟩ (fun hHeld => ?_)
                refine wpAnyH_take (i := 0) (v := ?_) (by simp only [List.getElem?_toArray, List.getElem?_cons_succ, List.getElem?_cons_zero]; rfl) (by kernel_rfl) (by kernel_rfl) (by kernel_rfl) (by exact fun _ _ _ h => h) (Or.inl ⟨by rfl, ?_⟩) hHeld ?_
                rotate_left
                · (intro w' hSw; (try dsimp only at hSw); go_simp; try with_reducible rfl)
                try simp only [Act.put, List.setIfInBounds_toArray, List.set_cons_zero, List.set_cons_succ]
                refine wpAnyH_take (i := 1) (v := ?_) (by simp only [List.getElem?_toArray, List.getElem?_cons_succ, List.getElem?_cons_zero]; rfl) (by kernel_rfl) (by kernel_rfl) (by kernel_rfl) (by exact fun _ _ _ h => h) (Or.inl ⟨by rfl, ?_⟩) hHeld ?_
                rotate_left
                · (intro w' hSw; (try dsimp only at hSw); go_simp; try with_reducible rfl)
                try simp only [Act.put, List.setIfInBounds_toArray, List.set_cons_zero, List.set_cons_succ]
                refine wpAnyH_take (i := 2) (v := ?_) (by simp only [List.getElem?_toArray, List.getElem?_cons_succ, List.getElem?_cons_zero]; rfl) (by kernel_rfl) (by kernel_rfl) (by kernel_rfl) (by exact fun _ _ _ h => h) (Or.inl ⟨by rfl, ?_⟩) hHeld ?_
                rotate_left
                · (intro w' hSw; (try dsimp only at hSw); go_simp; try with_reducible rfl)
                try simp only [Act.put, List.setIfInBounds_toArray, List.set_cons_zero, List.set_cons_succ]
                refine wpAnyH_take (i := 3) (v := ?_) (by simp only [List.getElem?_toArray, List.getElem?_cons_succ, List.getElem?_cons_zero]; rfl) (by kernel_rfl) (by kernel_rfl) (by kernel_rfl) (by exact fun _ _ _ h => h) (Or.inl ⟨by rfl, ?_⟩) hHeld ?_
                rotate_left
                · (intro w' hSw; (try dsimp only at hSw); go_simp; try with_reducible rfl)
                try simp only [Act.put, List.setIfInBounds_toArray, List.set_cons_zero, List.set_cons_succ]
                refine wpAnyH_take (i := 4) (v := undef) (by simp only [List.getElem?_toArray, List.getElem?_cons_succ, List.getElem?_cons_zero]; rfl) (by kernel_rfl) (by kernel_rfl) (by kernel_rfl) (by exact fun _ _ _ h => h) (Or.inr ⟨by rfl, rfl⟩) hHeld ?_
                try simp only [Act.put, List.setIfInBounds_toArray, List.set_cons_zero, List.set_cons_succ]
                refine wpAnyH_take (i := 5) (v := undef) (by simp only [List.getElem?_toArray, List.getElem?_cons_succ, List.getElem?_cons_zero]; rfl) (by kernel_rfl) (by kernel_rfl) (by kernel_rfl) (by exact fun _ _ _ h => h) (Or.inr ⟨by rfl, rfl⟩) hHeld ?_
                try simp only [Act.put, List.setIfInBounds_toArray, List.set_cons_zero, List.set_cons_succ]
                refine wpAnyH_take (i := 6) (v := undef) (by simp only [List.getElem?_toArray, List.getElem?_cons_succ, List.getElem?_cons_zero]; rfl) (by kernel_rfl) (by kernel_rfl) (by kernel_rfl) (by exact fun _ _ _ h => h) (Or.inr ⟨by rfl, rfl⟩) hHeld ?_
                try simp only [Act.put, List.setIfInBounds_toArray, List.set_cons_zero, List.set_cons_succ]
                refine wpAnyH_take (i := 7) (v := undef) (by simp only [List.getElem?_toArray, List.getElem?_cons_succ, List.getElem?_cons_zero]; rfl) (by kernel_rfl) (by kernel_rfl) (by kernel_rfl) (by exact fun _ _ _ h => h) (Or.inr ⟨by rfl, rfl⟩) hHeld ?_
                try simp only [Act.put, List.setIfInBounds_toArray, List.set_cons_zero, List.set_cons_succ]
                refine wpAnyH_take (i := 8) (v := undef) (by simp only [List.getElem?_toArray, List.getElem?_cons_succ, List.getElem?_cons_zero]; rfl) (by kernel_rfl) (by kernel_rfl) (by kernel_rfl) (by exact fun _ _ _ h => h) (Or.inr ⟨by rfl, rfl⟩) hHeld ?_
                try simp only [Act.put, List.setIfInBounds_toArray, List.set_cons_zero, List.set_cons_succ]
                refine wpAnyH_take (i := 9) (v := ?_) (by simp only [List.getElem?_toArray, List.getElem?_cons_succ, List.getElem?_cons_zero]; rfl) (by kernel_rfl) (by kernel_rfl) (by kernel_rfl) (by exact fun _ _ _ h => h) (Or.inl ⟨by rfl, ?_⟩) hHeld ?_
                rotate_left
                · (intro w' hSw; (try dsimp only at hSw); go_simp; try with_reducible rfl)
                try simp only [Act.put, List.setIfInBounds_toArray, List.set_cons_zero, List.set_cons_succ]
                refine wpAnyH_take (i := 10) (v := ?_) (by simp only [List.getElem?_toArray, List.getElem?_cons_succ, List.getElem?_cons_zero]; rfl) (by kernel_rfl) (by kernel_rfl) (by kernel_rfl) (by exact fun _ _ _ h => h) (Or.inl ⟨by rfl, ?_⟩) hHeld ?_
                rotate_left
                · (intro w' hSw; (try dsimp only at hSw); go_simp; try with_reducible rfl)
                try simp only [Act.put, List.setIfInBounds_toArray, List.set_cons_zero, List.set_cons_succ]
                refine wpAnyH_take (i := 11) (v := undef) (by simp only [List.getElem?_toArray, List.getElem?_cons_succ, List.getElem?_cons_zero]; rfl) (by kernel_rfl) (by kernel_rfl) (by kernel_rfl) (by exact fun _ _ _ h => h) (Or.inr ⟨by rfl, rfl⟩) hHeld ?_
                try simp only [Act.put, List.setIfInBounds_toArray, List.set_cons_zero, List.set_cons_succ]
                refine wpAnyH_take (i := 12) (v := undef) (by simp only [List.getElem?_toArray, List.getElem?_cons_succ, List.getElem?_cons_zero]; rfl) (by kernel_rfl) (by kernel_rfl) (by kernel_rfl) (by exact fun _ _ _ h => h) (Or.inr ⟨by rfl, rfl⟩) hHeld ?_
                try simp only [Act.put, List.setIfInBounds_toArray, List.set_cons_zero, List.set_cons_succ]
                refine wpAnyH_take (i := 13) (v := undef) (by simp only [List.getElem?_toArray, List.getElem?_cons_succ, List.getElem?_cons_zero]; rfl) (by kernel_rfl) (by kernel_rfl) (by kernel_rfl) (by exact fun _ _ _ h => h) (Or.inr ⟨by rfl, rfl⟩) hHeld ?_
                try simp only [Act.put, List.setIfInBounds_toArray, List.set_cons_zero, List.set_cons_succ]
                refine wpAnyH_take (i := 14) (v := undef) (by simp only [List.getElem?_toArray, List.getElem?_cons_succ, List.getElem?_cons_zero]; rfl) (by kernel_rfl) (by kernel_rfl) (by kernel_rfl) (by exact fun _ _ _ h => h) (Or.inr ⟨by rfl, rfl⟩) hHeld ?_
                try simp only [Act.put, List.setIfInBounds_toArray, List.set_cons_zero, List.set_cons_succ]
                refine wpAnyH_take (i := 15) (v := undef) (by simp only [List.getElem?_toArray, List.getElem?_cons_succ, List.getElem?_cons_zero]; rfl) (by kernel_rfl) (by kernel_rfl) (by kernel_rfl) (by exact fun _ _ _ h => h) (Or.inr ⟨by rfl, rfl⟩) hHeld ?_
                try simp only [Act.put, List.setIfInBounds_toArray, List.set_cons_zero, List.set_cons_succ]
                refine wpAnyH_take (i := 16) (v := undef) (by simp only [List.getElem?_toArray, List.getElem?_cons_succ, List.getElem?_cons_zero]; rfl) (by kernel_rfl) (by kernel_rfl) (by kernel_rfl) (by exact fun _ _ _ h => h) (Or.inr ⟨by rfl, rfl⟩) hHeld ?_
                try simp only [Act.put, List.setIfInBounds_toArray, List.set_cons_zero, List.set_cons_succ]
                refine wpAnyH_take (i := 17) (v := undef) (by simp only [List.getElem?_toArray, List.getElem?_cons_succ, List.getElem?_cons_zero]; rfl) (by kernel_rfl) (by kernel_rfl) (by kernel_rfl) (by exact fun _ _ _ h => h) (Or.inr ⟨by rfl, rfl⟩) hHeld ?_
                try simp only [Act.put, List.setIfInBounds_toArray, List.set_cons_zero, List.set_cons_succ]
                refine wpAnyH_take (i := 18) (v := ?_) (by simp only [List.getElem?_toArray, List.getElem?_cons_succ, List.getElem?_cons_zero]; rfl) (by kernel_rfl) (by kernel_rfl) (by kernel_rfl) (by exact fun _ _ _ h => h) (Or.inl ⟨by rfl, ?_⟩) hHeld ?_
                rotate_left
                · (intro w' hSw; (try dsimp only at hSw); go_simp; try with_reducible rfl)
                try simp only [Act.put, List.setIfInBounds_toArray, List.set_cons_zero, List.set_cons_succ]
                refine wpAnyH_take (i := 19) (v := ?_) (by simp only [List.getElem?_toArray, List.getElem?_cons_succ, List.getElem?_cons_zero]; rfl) (by kernel_rfl) (by kernel_rfl) (by kernel_rfl) (by exact fun _ _ _ h => h) (Or.inl ⟨by rfl, ?_⟩) hHeld ?_
                rotate_left
                · (intro w' hSw; (try dsimp only at hSw); go_simp; try with_reducible rfl)
                try simp only [Act.put, List.setIfInBounds_toArray, List.set_cons_zero, List.set_cons_succ]
                refine wpAnyH_take (i := 20) (v := ?_) (by simp only [List.getElem?_toArray, List.getElem?_cons_succ, List.getElem?_cons_zero]; rfl) (by kernel_rfl) (by kernel_rfl) (by kernel_rfl) (by exact fun _ _ _ h => h) (Or.inl ⟨by rfl, ?_⟩) hHeld ?_
                rotate_left
                · (intro w' hSw; (try dsimp only at hSw); go_simp; try with_reducible rfl)
                try simp only [Act.put, List.setIfInBounds_toArray, List.set_cons_zero, List.set_cons_succ]
                refine wpAnyH_take (i := 21) (v := ?_) (by simp only [List.getElem?_toArray, List.getElem?_cons_succ, List.getElem?_cons_zero]; rfl) (by kernel_rfl) (by kernel_rfl) (by kernel_rfl) (by exact fun _ _ _ h => h) (Or.inl ⟨by rfl, ?_⟩) hHeld ?_
                rotate_left
                · (intro w' hSw; (try dsimp only at hSw); go_simp; try with_reducible rfl)
                try simp only [Act.put, List.setIfInBounds_toArray, List.set_cons_zero, List.set_cons_succ]
                refine wpAnyH_take (i := 22) (v := ?_) (by simp only [List.getElem?_toArray, List.getElem?_cons_succ, List.getElem?_cons_zero]; rfl) (by kernel_rfl) (by kernel_rfl) (by kernel_rfl) (by exact fun _ _ _ h => h) (Or.inl ⟨by rfl, ?_⟩) hHeld ?_
                rotate_left
                · (intro w' hSw; (try dsimp only at hSw); go_simp; try with_reducible rfl)
                try simp only [Act.put, List.setIfInBounds_toArray, List.set_cons_zero, List.set_cons_succ]
                refine wpAnyH_take (i := 23) (v := ?_) (by simp only [List.getElem?_toArray, List.getElem?_cons_succ, List.getElem?_cons_zero]; rfl) (by kernel_rfl) (by kernel_rfl) (by kernel_rfl) (by exact fun _ _ _ h => h) (Or.inl ⟨by rfl, ?_⟩) hHeld ?_
                rotate_left
                · (intro w' hSw; (try dsimp only at hSw); go_simp; try with_reducible rfl)
                try simp only [Act.put, List.setIfInBounds_toArray, List.set_cons_zero, List.set_cons_succ]
                refine wpAnyH_take (i := 24) (v := ?_) (by simp only [List.getElem?_toArray, List.getElem?_cons_succ, List.getElem?_cons_zero]; rfl) (by kernel_rfl) (by kernel_rfl) (by kernel_rfl) (by exact fun _ _ _ h => h) (Or.inl ⟨by rfl, ?_⟩) hHeld ?_
                rotate_left
                · (intro w' hSw; (try dsimp only at hSw); go_simp; try with_reducible rfl)
                try simp only [Act.put, List.setIfInBounds_toArray, List.set_cons_zero, List.set_cons_succ]
                refine wpAnyH_take (i := 25) (v := ?_) (by simp only [List.getElem?_toArray, List.getElem?_cons_succ, List.getElem?_cons_zero]; rfl) (by kernel_rfl) (by kernel_rfl) (by kernel_rfl) (by exact fun _ _ _ h => h) (Or.inl ⟨by rfl, ?_⟩) hHeld ?_
                rotate_left
                · (intro w' hSw; (try dsimp only at hSw); go_simp; try with_reducible rfl)
                try simp only [Act.put, List.setIfInBounds_toArray, List.set_cons_zero, List.set_cons_succ]
                refine wpAnyH_take (i := 26) (v := ?_) (by simp only [List.getElem?_toArray, List.getElem?_cons_succ, List.getElem?_cons_zero]; rfl) (by kernel_rfl) (by kernel_rfl) (by kernel_rfl) (by exact fun _ _ _ h => h) (Or.inl ⟨by rfl, ?_⟩) hHeld ?_
                rotate_left
                · (intro w' hSw; (try dsimp only at hSw); go_simp; try with_reducible rfl)
                try simp only [Act.put, List.setIfInBounds_toArray, List.set_cons_zero, List.set_cons_succ]
                refine wpAnyH_take (i := 27) (v := ?_) (by simp only [List.getElem?_toArray, List.getElem?_cons_succ, List.getElem?_cons_zero]; rfl) (by kernel_rfl) (by kernel_rfl) (by kernel_rfl) (by exact fun _ _ _ h => h) (Or.inl ⟨by rfl, ?_⟩) hHeld ?_
                rotate_left
                · (intro w' hSw; (try dsimp only at hSw); go_simp; try with_reducible rfl)
                try simp only [Act.put, List.setIfInBounds_toArray, List.set_cons_zero, List.set_cons_succ]
                refine wpAnyH_take (i := 29) (v := ?_) (by simp only [List.getElem?_toArray, List.getElem?_cons_succ, List.getElem?_cons_zero]; rfl) (by kernel_rfl) (by kernel_rfl) (by kernel_rfl) (by exact fun _ _ _ h => h) (Or.inl ⟨by rfl, ?_⟩) hHeld ?_
                rotate_left
                · (intro w' hSw; (try dsimp only at hSw); go_simp; try with_reducible rfl)
                try simp only [Act.put, List.setIfInBounds_toArray, List.set_cons_zero, List.set_cons_succ]
                refine wpAnyH_take (i := 30) (v := ?_) (by simp only [List.getElem?_toArray, List.getElem?_cons_succ, List.getElem?_cons_zero]; rfl) (by kernel_rfl) (by kernel_rfl) (by kernel_rfl) (by exact fun _ _ _ h => h) (Or.inl ⟨by rfl, ?_⟩) hHeld ?_
                rotate_left
                · (intro w' hSw; (try dsimp only at hSw); go_simp; try with_reducible rfl)
                try simp only [Act.put, List.setIfInBounds_toArray, List.set_cons_zero, List.set_cons_succ]
                refine wpAnyH_ready (rs := [28]) (by kernel_rfl) (by simp) ?_
                refine AllReadyH.cons (by simp only [List.getElem?_toArray, List.getElem?_cons_succ, List.getElem?_cons_zero]; rfl) (fun K hK => ?_) AllReadyH.nil
                rw [if_pos (by rfl)]
                go_simp
                refine (rbytes_any w.heap.size gr A1 _ c1 _ false xs (m : Int) _ H1.out.1.cur H1.out.1.row H1.out.1.ne).mono ?_
                rintro e w6 ⟨A4, n4, c4, ys, rfl, hO6, ho6, hy6⟩
                obtain ⟨hc6, hys⟩ := HV.out w6 ys hy6
                have hys := hys.symm
                subst hys
                have hI6 := H1.out.1.go ho6 hc6
                have HE := Aside0.mk (And.intro hO6.bs (H1.out.2.2.only ho6 HG.out.1))
                clear hO6 hy6
                have p6 := (ho6.block N8 (Array.getElem?_eq_some_iff.1 H1.out.2.1).1 e1).trans H1.out.2.1
                clear b0 b1 b2 b3
                obtain ⟨b0, b1, b2, b3⟩ := row4_cells' p6
                have H6 := Aside0.mk hI6
                clear hI6 p6 ho6 hc6
                dsimp only
                refine hK.out _ _ ⟨b0, b1, b2, b3⟩ (fun hHeld => ?_)
                clear hK K
                try simp only [Act.put, List.setIfInBounds_toArray, List.set_cons_zero, List.set_cons_succ]
                refine wpAnyH_ready (rs := [31]) (by kernel_rfl) (by simp) ?_
                refine AllReadyH.cons (by simp only [List.getElem?_toArray, List.getElem?_cons_succ, List.getElem?_cons_zero]; rfl) (fun K hK => ?_) AllReadyH.nil
                rw [if_pos (by rfl)]
                go_simp
                refine (equal8_any A4 n4 c4 oys B m d oys w6 HE.out.1 HE.out.2).mono ?_
                rintro e w7 ⟨rfl, rfl⟩
                rw [e0]
                dsimp only
                refine hK.out _ _ ⟨b0, b1, b2, b3⟩ (fun hHeld => ?_)
                clear hK K
                try simp only [Act.put, List.setIfInBounds_toArray, List.set_cons_zero, List.set_cons_succ]
                refine wpAnyH_take (i := 32) (v := ?_) (by simp only [List.getElem?_toArray, List.getElem?_cons_succ, List.getElem?_cons_zero]; rfl) (by kernel_rfl) (by kernel_rfl) (by kernel_rfl) (by exact fun _ _ _ h => h) (Or.inl ⟨by rfl, ?_⟩) hHeld ?_
                rotate_left
                · (intro w' hSw; (try dsimp only at hSw); go_simp; try with_reducible rfl)
                try simp only [Act.put, List.setIfInBounds_toArray, List.set_cons_zero, List.set_cons_succ]
                refine wpAnyH_take (i := 33) (v := ?_) (by simp only [List.getElem?_toArray, List.getElem?_cons_succ, List.getElem?_cons_zero]; rfl) (by kernel_rfl) (by kernel_rfl) (by kernel_rfl) (by exact fun _ _ _ h => h) (Or.inl ⟨by rfl, ?_⟩) hHeld ?_
                rotate_left
                · (intro w' hSw; (try dsimp only at hSw); go_simp; try with_reducible rfl)
                try simp only [Act.put, List.setIfInBounds_toArray, List.set_cons_zero, List.set_cons_succ]
                refine wpAnyH_take (i := 34) (v := ?_) (by simp only [List.getElem?_toArray, List.getElem?_cons_succ, List.getElem?_cons_zero]; rfl) (by kernel_rfl) (by kernel_rfl) (by kernel_rfl) (by exact fun _ _ _ h => h) (Or.inl ⟨by rfl, ?_⟩) hHeld ?_
                rotate_left
                · (intro w' hSw; (try dsimp only at hSw); go_simp; try with_reducible rfl)
                try simp only [Act.put, List.setIfInBounds_toArray, List.set_cons_zero, List.set_cons_succ]
                refine wpAnyH_done (by kernel_rfl) ?_ _
                go_wp2
                go_roundg (n - (j + 1))
                case measure => have := hk.out; omega
                case rel => exact ⟨j + 1, by have := hk.out; exact (show n - (j + 1) + (j + 1) = n by omega), by go_num, H6⟩
              · have f1 : (o.k == 1) = false := by simp [q1]
                have hz : (encs l (j + 1)).length = (encs l j).length := by rw [encs, HG.out.2]; unfold encO; rw [if_neg q0, if_neg q1]; simp
                have HZ := Aside0.mk hz
                clear hz q0 q1
                go_upto_region 21 with fail
                refine wp_region_ext (by kernel_rfl) (by kernel_rfl) ?_
                have x0 := cell_ext b0
                have x1 := cell_ext b1
                have x2 := cell_ext b2
                have x3 := cell_ext b3
                repeat (go_big_quiet_step (fail))
                refine wpQuiet_nil ?_
                rintro w' ⟨kx, rfl⟩
                have HE := Aside0.mk (H1.out.1.step (W1 := kx.w) ⟨kx.bel.os, kx.bel.tape, kx.bel.output, kx.bel.size, kx.bel.block⟩)
                clear H1 HG b0 b1 b2 b3 x0 x1 x2 x3
                go_wp2
                go_roundg (n - (j + 1))
                case measure => have := hk.out; omega
                case rel => exact ⟨j + 1, by have := hk.out; exact (show n - (j + 1) + (j + 1) = n by omega), by go_num, by rw [HZ.out]; exact HE⟩
          · obtain rfl : n = j := by omega
            go_wp2_with fail
            refine wp_region_ext (by kernel_rfl) (by kernel_rfl) ?_
            repeat (go_big_quiet_step ((first | (go_at_call 11; exact Calls.ext_of (alive03_any _)) | (go_at_call 29; exact Calls.ext_same (err_ok gr _ _ _ _ _ (hI.out.cur.below (Ext.bel _)))) | (go_at_call 24; first | (with_reducible exact Calls.ext_same (at_any gr _ _ _ _ _ _ _ (hI.out.cur.below (Ext.bel _)))) | (with_reducible exact Calls.ext_same (at_any g _ _ _ _ _ _ _ (hI.out.wi.wr.cur.below (Ext.bel _))))))))
            refine wpQuiet_nil ?_
            rintro w' ⟨kx, rfl⟩
            have hBk := below_then hI.out.wi.bel hI.out.wi.bel.size kx.bel
            go_wp2
            go_ret
            exact ⟨ret_bool (by first | rfl | simp), hBk⟩
end Go.Proofs.Ytfhajobcfdmllaa
