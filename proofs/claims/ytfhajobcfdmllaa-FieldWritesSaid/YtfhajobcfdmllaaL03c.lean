/- The walk of the law FieldWrites. -/
import Derived.Test.YtfhajobcfdmllaaO2
import Derived.Deep.CutBlock
set_option linter.unusedVariables false
set_option linter.unusedSimpArgs false
namespace Go.Proofs.Ytfhajobcfdmllaa
open Go.RowKit

theorem row4_cells {W : World} {g : Nat} {T : TypeId} {x y z u : Value} (h : W.heap[g]? = some (.cells #[x, y, z, u] T)) :
    W.cell? ⟨g, 0, none⟩ = some x ∧ W.cell? ⟨g, 1, none⟩ = some y ∧ W.cell? ⟨g, 2, none⟩ = some z ∧ W.cell? ⟨g, 3, none⟩ = some u :=
  ⟨by rw [cell_of_row _ _ _ _ _ _ h]; rfl, by rw [cell_of_row _ _ _ _ _ _ h]; rfl, by rw [cell_of_row _ _ _ _ _ _ h]; rfl, by rw [cell_of_row _ _ _ _ _ _ h]; rfl⟩
set_option maxHeartbeats 4000000 in
set_option maxRecDepth 100000 in
theorem fieldWrites_walk (size : Int) (A : Option Addr) (n c : Nat) (l : List OpV) (w : World) (hz : -9223372036854775808 ≤ size ∧ size ≤ 9223372036854775807) (hl : Ops w A n c l) :
    Calls Try.prog 4 #[.int .i64 size, .slice A n c] w fun e w' => e = .returned (.bool true) ∧ Below w.heap.size w w' := by
  have HL := Aside0.mk hl
  clear hl
  have hlim := HL.out.lim
  cases hf : decide (n ≤ 100 ∧ totW l n ≤ 4000) with
  | false =>
    go_enter Try.func4, Try.ntmps4
    go_wp2_with (first
      | (go_at_call 14; refine (few_any A n c l w HL.out).mono ?_; rintro e w1 ⟨rfl, hB1⟩; rw [hf])
      | (go_at_call 11; refine (alive03_any _).mono ?_; rintro e w2 ⟨rfl, hB2⟩))
    go_ret
    exact ⟨rfl, below_then hB1 hB1.size hB2⟩
  | true =>
    go_enter Try.func4, Try.ntmps4
    go_wp2_with (first
      | (go_at_call 14; refine (few_any A n c l w HL.out).mono ?_; rintro e w1 ⟨rfl, hB1⟩; rw [hf])
      | (go_at_call 15; refine (newWriter_any size w1).mono ?_; rintro e w2 ⟨g, g2, rfl, hg, hg2, hne, hgl, hc, hO, hB2⟩)
      | (go_at_call 16; refine (rwriter_any size w2).mono ?_; rintro e w3 ⟨g3, rfl, hg3, hO3, hB3⟩))
    have hnw : (List.replicate (nwN size) (0 : UInt8)).length = nwN size := List.length_replicate
    have hF0 : FW w g g2 (nwN size) w3.heap.size ⟨0, false, List.replicate (nwN size) 0⟩ ⟨0, false, List.replicate (nwN size) 0⟩ (some ⟨g3, 0, none⟩) (nwN size) (w3.alloc (.cells #[.slice (some ⟨g3, 0, none⟩) (nwN size) (nwN size), .int .i64 0, .bool false] 30)) := by
      have z1 := hB1.size
      have z2 := hB2.size
      have z3 := hB3.size
      have hlt := hO3.bs.lt
      have hg2l := hO.bs.lt
      refine ⟨⟨?_, ?_, hne, by omega, by omega⟩, ?_, ?_, ?_, below_alloc (below_then (below_then hB1 z1 hB2) (by omega) hB3) (by omega) _, by omega, by omega, ?_, Nat.zero_le _⟩
      · rw [hnw]; exact (hc.below hB3).below ((Below.refl _ _).alloc (Nat.le_refl _) _)
      · rw [hnw]; exact (((hO.below hB3).alloc _).mono (by omega))
      · rw [hnw]; exact heap_alloc_new _ _
      · rw [hnw]; exact (hO3.alloc _).bs
      · intro ad e h0
        rw [hnw] at h0
        have h1 := hlt ad e h0
        have h2 := hg2l _ rfl h0
        injection e with e
        subst e
        exact ⟨(show g3 ≠ g by omega), (show g3 ≠ g2 from fun q => by subst q; exact absurd hg3 (Nat.not_le.2 h2)), (show g3 ≠ w3.heap.size from Nat.ne_of_lt h1)⟩
      · have hW2 : Wr w2 w1.heap.size g g2 (nwN size) ⟨0, false, List.replicate (nwN size) 0⟩ := ⟨by rw [hnw]; exact hc, by rw [hnw]; exact hO, hne, hg, hg2⟩
        have := hW2.lt.2
        omega
    obtain ⟨N, hN⟩ : ∃ N, w3.heap.size = N := ⟨_, rfl⟩
    obtain ⟨W4, hW4⟩ : ∃ W4, w3.alloc (.cells #[.slice (some ⟨g3, 0, none⟩) (nwN size) (nwN size), .int .i64 0, .bool false] 30) = W4 := ⟨_, rfl⟩
    rw [hW4, hN] at hF0
    rw [hW4, hN]
    have HF0 := Aside0.mk hF0
    clear hF0 hW4 hN hB1 hB2 hB3 hO hO3 hc hg hg2 hg3 hgl hne hnw
    go_loopg [23] n (fun k v wr => ∃ j : Nat, Aside (k + j = n) ∧ v = .int .i64 (j : Int) ∧ ∃ s A' c', Aside0 (FW w g g2 (nwN size) N s s A' c' wr))
    case atStart => exact ⟨0, rfl, rfl, _, _, _, HF0⟩
    case round =>
      obtain ⟨j, hk, rfl, s, A', c', hI⟩ := hrel
      have hjb : j ≤ n := by have := hk.out; omega
      by_cases hlt : j < n
      · obtain ⟨ad, rfl, B, m, d, hop⟩ := HL.out.atN j hlt
        have hy0 := hop.row.lt
        replace hop := hop.below hI.out.bel
        obtain ⟨o, ho⟩ : ∃ o, l.getD j ⟨0, 0, 0, []⟩ = o := ⟨_, rfl⟩
        rw [ho] at hop
        obtain ⟨c0, c1, c2, c3, hrow, bk, bn, bw⟩ := hop
        have hjn : (j : Int) < (n : Int) := by omega
        have hI1 := hI.out.step ((Below.refl _ _).alloc (Nat.le_refl _) (.cells #[.int .i64 o.k, .int .i64 o.n, .int .i64 o.wd, .slice B m d] 33))
        have hbx := heap_alloc_new wr (.cells #[.int .i64 o.k, .int .i64 o.n, .int .i64 o.wd, .slice B m d] 33)
        have hy1 := hrow.alloc (.cells #[.int .i64 o.k, .int .i64 o.n, .int .i64 o.wd, .slice B m d] 33)
        obtain ⟨W1, hW1⟩ : ∃ W1, wr.alloc (.cells #[.int .i64 o.k, .int .i64 o.n, .int .i64 o.wd, .slice B m d] 33) = W1 := ⟨_, rfl⟩
        rw [hW1] at hI1 hbx hy1
        obtain ⟨N8, hN8⟩ : ∃ N8, wr.heap.size = N8 := ⟨_, rfl⟩
        rw [hN8] at hbx
        have e1 : N8 ≠ g := by have := hI.out.lt.1; omega
        have e2 : N8 ≠ g2 := by have := hI.out.lt.2.2; omega
        have hg1 : ∀ ad, B = some ad → 0 < m → ad.block ≠ g := fun ad e h0 => by have := hy0 ad e h0; have := hI1.wr.lo; omega
        have hg2 : ∀ ad, B = some ad → 0 < m → ad.block ≠ g2 := fun ad e h0 => by have := hy0 ad e h0; have := hI1.wr.lo2; omega
        have HG := Aside0.mk (And.intro hg1 hg2)
        clear hy0 hg1 hg2
        have H1 := Aside0.mk (And.intro hI1 (And.intro hbx hy1))
        obtain ⟨b0, b1, b2, b3⟩ := row4_cells hbx
        go_upto_block 2 with fail
        go_cut [] (fun wx => ∃ s' A2 c2, Aside0 (FW w g g2 (nwN size) N s' s' A2 c2 wx))
        case first =>
          have hfr : ∀ {X Y : World} {q : WS} {A2 : Option Addr} {k : Nat}, FW w g g2 (nwN size) N q s A' c' X → (A2 = A' ∨ ∀ ad, A2 = some ad → 0 < k → X.heap.size ≤ ad.block) → (A2 = A' ∨ ∀ ad, A2 = some ad → 0 < k → ad.block ≠ g ∧ ad.block ≠ g2 ∧ ad.block ≠ N) := by
            intro X Y q A2 k hX h
            rcases h with h | h
            · exact .inl h
            · refine .inr fun ad e h0 => ?_
              have h1 := h ad e h0
              obtain ⟨h2, h3, h4⟩ := hX.lt
              exact ⟨by omega, by omega, by omega⟩
          have HFR := Aside0.mk @hfr
          clear hfr
          by_cases q0 : o.k = 0
          · have f0 : (o.k == 0) = true := by simp [q0]
            clear q0
            go_wp2_with (first
              | (go_at_call 17; refine (put_any w.heap.size g g2 (nwN size) s o.n o.wd W1 bn H1.out.1.wr).mono ?_; rintro e w5 ⟨rfl, hW5, hO5, hs5⟩; (have hI5 := H1.out.1.writer hO5 hW5); (have p5 := (hO5.block N8 (Array.getElem?_eq_some_iff.1 H1.out.2.1).1 e1 e2).trans H1.out.2.1); clear b0 b1 b2 b3; obtain ⟨b0, b1, b2, b3⟩ := row4_cells p5; obtain ⟨r0, r1, r2, rt⟩ := row3_cells hI5.row; (have H5 := Aside0.mk hI5); clear hI5 p5 hW5 hO5 hs5)
              | (go_at_call 18; refine (rput_any A' c' s o.n o.wd w5 bn H5.out.le H5.out.bs).mono ?_; rintro e w6 ⟨hB6, A2, c2, rfl, hb6, hA6⟩; (have hI6 := H5.out.step hB6); clear r0 r1 r2 rt; obtain ⟨r0, r1, r2, rt⟩ := row3_cells hI6.row; (have H6 := Aside0.mk (And.intro hI6 (And.intro hb6 (HFR.out (Y := w6) H5.out hA6)))); clear hI6 hb6 hA6))
            go_meet
            exact ⟨_, A2, c2, ⟨H6.out.1.ref A2 c2 _ H6.out.2.1 (putS_len s o.n o.wd H5.out.le).1 (putS_len s o.n o.wd H5.out.le).2 H6.out.2.2⟩⟩
          have f0 : (o.k == 0) = false := by simp [q0]
          by_cases q1 : o.k = 1
          · have f1 : (o.k == 1) = true := by simp [q1]
            clear q0 q1
            go_wp2_with (first
              | (go_at_call 19; refine (wbytes_any w.heap.size g g2 (nwN size) s B m d o.ys W1 H1.out.1.wr H1.out.2.2 HG.out.1 HG.out.2).mono ?_; rintro e w5 ⟨rfl, hW5, hO5, hs5⟩; (have hI5 := H1.out.1.writer hO5 hW5); (have p5 := (hO5.block N8 (Array.getElem?_eq_some_iff.1 H1.out.2.1).1 e1 e2).trans H1.out.2.1); (have hy5 := H1.out.2.2.only2 hO5 HG.out.1 HG.out.2); clear b0 b1 b2 b3; obtain ⟨b0, b1, b2, b3⟩ := row4_cells p5; obtain ⟨r0, r1, r2, rt⟩ := row3_cells hI5.row; (have H5 := Aside0.mk (And.intro hI5 hy5)); clear hI5 p5 hW5 hO5 hs5 hy5)
              | (go_at_call 20; refine (rbs_any A' c' s B m d o.ys w5 H5.out.1.le H5.out.1.bs H5.out.2).mono ?_; rintro e w6 ⟨hB6, A2, c2, rfl, hb6, hA6⟩; (have hI6 := H5.out.1.step hB6); clear r0 r1 r2 rt; obtain ⟨r0, r1, r2, rt⟩ := row3_cells hI6.row; (have H6 := Aside0.mk (And.intro hI6 (And.intro hb6 (HFR.out (Y := w6) H5.out.1 hA6)))); clear hI6 hb6 hA6))
            go_meet
            exact ⟨_, A2, c2, ⟨H6.out.1.ref A2 c2 _ H6.out.2.1 (bytesS_len s o.ys H5.out.1.le).1 (bytesS_len s o.ys H5.out.1.le).2 H6.out.2.2⟩⟩
          have f1 : (o.k == 1) = false := by simp [q1]
          by_cases q2 : o.k = 2
          · have f2 : (o.k == 2) = true := by simp [q2]
            clear q0 q1 q2
            go_upto_region 17 with fail
            go_still_tail 5, (by kernel_rfl)
            change wpList _ _ _ _ _ W1.drew
            obtain ⟨Wd, hWd⟩ : ∃ Wd, W1.drew = Wd := ⟨_, rfl⟩
            have hId : FW w g g2 (nwN size) N s s A' c' Wd := by rw [← hWd]; exact H1.out.1.step (below_drew (Below.refl _ _))
            have hpd : Wd.heap[N8]? = some (.cells #[.int .i64 o.k, .int .i64 o.n, .int .i64 o.wd, .slice B m d] 33) := by rw [← hWd]; exact H1.out.2.1
            rw [hWd]
            have HD := Aside0.mk (And.intro hId hpd)
            clear hWd hId hpd b0 b1 b2 b3
            go_wp2_with (first
              | (go_at_call 21; refine (skip_wr w.heap.size g g2 (nwN size) s o.n Wd HD.out.1.wr).mono ?_; rintro e w5 ⟨rfl, hW5, hO5⟩; (have hI5 := HD.out.1.writer hO5 hW5); (have p5 := (hO5.block N8 (Array.getElem?_eq_some_iff.1 HD.out.2).1 e1 e2).trans HD.out.2); obtain ⟨b0, b1, b2, b3⟩ := row4_cells p5; obtain ⟨r0, r1, r2, rt⟩ := row3_cells hI5.row; (have H5 := Aside0.mk hI5); clear hI5 p5 hW5 hO5)
              | (go_at_call 22; refine (rskip_any A' s.xs.length c' s.at_ s.sp s.xs o.n w5 H5.out.le H5.out.bs).mono ?_; rintro e w6 ⟨hB6, rfl⟩; (have hI6 := H5.out.step hB6); clear r0 r1 r2 rt; obtain ⟨r0, r1, r2, rt⟩ := row3_cells hI6.row; (have H6 := Aside0.mk hI6); clear hI6))
            go_meet
            exact ⟨skipS s o.n, A', c', ⟨H6.out.ref A' c' (skipS s o.n) H6.out.bs rfl (skipS_len s o.n H6.out.le).2 (.inl rfl)⟩⟩
          have f2 : (o.k == 2) = false := by simp [q2]
          clear q0 q1 q2
          go_wp2_with fail
          go_meet
          exact ⟨s, A', c', ⟨H1.out.1⟩⟩
        case rest =>
          obtain ⟨s', A2, d2, hJ⟩ := hcut
          clear hI H1 HG b0 b1 b2 b3 c0 c1 c2 c3 hrow e1 e2
          obtain ⟨a, sp, xs⟩ := s'
          cases sp with
          | true =>
            go_upto_region 20 with (go_at_call 23; refine (done_any g _ _ _ _ _ _ wc hJ.out.wr.cur hJ.out.wr.own.bs).mono ?_; rintro e w8 ⟨A3, c3, rfl, hO8, hB8⟩; rw [show doneE true = 30 from rfl, show doneB true xs = [] from rfl] at *; (have hI8 := hJ.out.step hB8); obtain ⟨r0, r1, r2, rt⟩ := row3_cells hI8.row; (have H8 := Aside0.mk (And.intro hI8 hO8)); clear hI8 hO8 hB8)
            refine wp_region_ext (by kernel_rfl) (by kernel_rfl) ?_
            have x0 := cell_ext r0
            have x1 := cell_ext r1
            have x2 := cell_ext r2
            repeat (go_big_quiet_step ((first | (go_at_call 24; exact Calls.ext_same (at_any g _ _ _ _ _ _ _ (H8.out.1.wr.cur.below (Ext.bel _)))) | (go_at_call 25; exact Calls.ext_same (equal8_any _ _ _ _ _ _ _ _ _ (H8.out.2.bs.ext _) (H8.out.1.bs.ext _))))))
            refine wpQuiet_nil ?_
            rintro w' ⟨kx, rfl⟩
            have HE := Aside0.mk (H8.out.1.step kx.bel)
            clear H8 r0 r1 r2 rt x0 x1 x2
            go_wp2
            go_roundg (n - (j + 1))
            case measure => have := hk.out; omega
            case rel => exact ⟨j + 1, by have := hk.out; exact (show n - (j + 1) + (j + 1) = n by omega), by go_num, _, _, _, HE⟩
          | false =>
            have e0 : (xs == xs) = true := by simp
            go_upto_region 20 with (go_at_call 23; refine (done_any g _ _ _ _ _ _ wc hJ.out.wr.cur hJ.out.wr.own.bs).mono ?_; rintro e w8 ⟨A3, c3, rfl, hO8, hB8⟩; rw [show doneE false = 0 from rfl, show doneB false xs = xs from rfl] at *; (have hI8 := hJ.out.step hB8); obtain ⟨r0, r1, r2, rt⟩ := row3_cells hI8.row; (have H8 := Aside0.mk (And.intro hI8 hO8)); clear hI8 hO8 hB8)
            refine wp_region_ext (by kernel_rfl) (by kernel_rfl) ?_
            have x0 := cell_ext r0
            have x1 := cell_ext r1
            have x2 := cell_ext r2
            repeat (go_big_quiet_step ((first | (go_at_call 24; exact Calls.ext_same (at_any g _ _ _ _ _ _ _ (H8.out.1.wr.cur.below (Ext.bel _)))) | (go_at_call 25; exact Calls.ext_same (equal8_any _ _ _ _ _ _ _ _ _ (H8.out.2.bs.ext _) (H8.out.1.bs.ext _))))))
            refine wpQuiet_nil ?_
            rintro w' ⟨kx, rfl⟩
            have HE := Aside0.mk (H8.out.1.step kx.bel)
            clear H8 r0 r1 r2 rt x0 x1 x2
            go_wp2
            go_roundg (n - (j + 1))
            case measure => have := hk.out; omega
            case rel => exact ⟨j + 1, by have := hk.out; exact (show n - (j + 1) + (j + 1) = n by omega), by go_num, _, _, _, HE⟩
      · obtain rfl : j = n := by omega
        go_wp2_with (go_at_call 11; refine (alive03_any _).mono ?_; rintro e w9 ⟨rfl, hB9⟩)
        go_ret
        exact ⟨rfl, below_then hI.out.bel hI.out.bel.size hB9⟩
end Go.Proofs.Ytfhajobcfdmllaa
