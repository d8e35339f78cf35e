/- The walks of a disk's Copy, and of Write where it says no at once. -/
import Derived.Test.YtcegphnhohpegaaD8
set_option linter.unusedVariables false
set_option linter.unusedSimpArgs false
namespace Go.Proofs.Ytcegphnhohpegaa
open Go.RowKit

theorem copy_dm {w2 : World} {base N n c m e : Nat} {A0 B0 A1 B1 : Option Addr} {n0 c0 m0 e0 : Nat} {d : DV} {k1 k2 : Nat}
    (hr : w2.heap[N]? = some (.cells #[.int .i64 d.limit, .slice A0 n0 c0, .slice B0 m0 e0, .int .i64 d.ops, .int .i64 d.fuse, .bool d.down] 52)) (hb : base ≤ N) (h1 : Oc w2 k1 54 64 A1 n c (u8v d.l)) (h2 : Oc w2 k2 59 65 B1 m e (wrv d.row))
    (hk1 : N < k1) (hk2 : N < k2) (hA : ∀ k, A1 = some ⟨k, 0, none⟩ → k < k2) :
    DM ((w2.setCell ⟨N, 1, none⟩ (.slice A1 n c)).setCell ⟨N, 2, none⟩ (.slice B1 m e)) base N A1 n c B1 m e d := by
  have ho := ((OnlyB.refl N w2).set 1 (.slice A1 n c)).set 2 (.slice B1 m e)
  have na : ∀ k, A1 = some ⟨k, 0, none⟩ → k ≠ N := fun k q => by have := h1.lo k q; omega
  have nb : ∀ k, B1 = some ⟨k, 0, none⟩ → k ≠ N := fun k q => by have := h2.lo k q; omega
  exact ⟨heap_setCell_same _ N 2 _ _ _ (heap_setCell_same w2 N 1 _ _ _ hr), hb, (h1.mono (by omega)).only ho na, (h2.mono (by omega)).only ho nb, na, nb, fun k j q r => by have := hA k q; have := h2.lo j r; omega⟩
def CopyQ (w : World) (n m : Nat) (d : DV) (g1 : Nat) (w' : World) : Prop := ∃ A1 c1 B1 e1, DM w' w.heap.size g1 A1 n c1 B1 m e1 d ∧ Below w.heap.size w w'
set_option maxHeartbeats 4000000 in
set_option maxRecDepth 100000 in
theorem copy_any (base g : Nat) (A : Option Addr) (n c : Nat) (B : Option Addr) (m e : Nat) (d : DV) (w : World) (h : DM w base g A n c B m e d) :
    Calls Try.prog 21 #[.pointer (some ⟨g, 0, none⟩)] w fun e' w' => e' = .returned (.pointer (some ⟨w.heap.size, 0, none⟩)) ∧ CopyQ w n m d w.heap.size w' := by
  obtain ⟨c0, c1, c2, c3, c4, c5⟩ := row6_cells h.row
  have HD := Aside0.mk h
  clear h
  go_enter Try.func21, Try.ntmps21
  go_upto_region 2 with fail
  have HD0 := Aside0.mk (HD.out.below ((Below.refl _ w).alloc (Nat.le_refl _) (.cells #[.int .i64 d.limit, .slice A n c, .slice B m e, .int .i64 d.ops, .int .i64 d.fuse, .bool d.down] 52)))
  have HR0 := Aside0.mk (heap_alloc_new w (.cells #[.int .i64 d.limit, .slice A n c, .slice B m e, .int .i64 d.ops, .int .i64 d.fuse, .bool d.down] 52))
  have HB0 := Aside0.mk ((Below.refl _ w).alloc (Nat.le_refl _) (.cells #[.int .i64 d.limit, .slice A n c, .slice B m e, .int .i64 d.ops, .int .i64 d.fuse, .bool d.down] 52))
  obtain ⟨W0, hW0⟩ : ∃ X, w.alloc (.cells #[.int .i64 d.limit, .slice A n c, .slice B m e, .int .i64 d.ops, .int .i64 d.fuse, .bool d.down] 52) = X := ⟨_, rfl⟩
  have S0 := Aside0.mk (show W0.heap.size = w.heap.size + 1 from by rw [← hW0]; simp)
  rw [hW0] at HD0 HR0 HB0 ⊢
  clear hW0 c0 c1 c2 c3 c4 c5
  obtain ⟨c0, c1, c2, c3, c4, c5⟩ := row6_cells HD0.out.row
  go_region_with (first
    | (go_at_call 31; refine (cloneS_any A n c _ _ (HD0.out.below (below_drawn (Below.refl _ _) 1)).sl.rc).mono ?_; rintro e1 w1 ⟨A1, cc, rfl, hO, hB⟩; (have HR1 := Aside0.mk ((hB.block _ (Array.getElem?_eq_some_iff.1 HR0.out).1).trans HR0.out)); (have H1 := Aside0.mk (And.intro hO hB)); (have HD1 := Aside0.mk ((HD0.out.below (below_drawn (Below.refl _ _) 1)).below hB)); clear hO hB; (obtain ⟨e0, e1, e2, e3, e4, e5⟩ := row6_cells HD1.out.row))
    | (go_at_call 32; refine (cloneW_any B m e _ w1 HD1.out.sr.rc).mono ?_; rintro e2 w2 ⟨B1, ce, rfl, hO, hB⟩; (have HR2 := Aside0.mk ((hB.block _ (Array.getElem?_eq_some_iff.1 HR1.out).1).trans HR1.out)); (have H2 := Aside0.mk (And.intro hO hB)); clear hO hB; (obtain ⟨f0, f1, f2, f3, f4, f5⟩ := row6_cells HR2.out); (have ff := fun j => Go.Joins.unfrozen_of_block HR2.out j)))
  all_goals (go_wp2_with fail)
  all_goals go_ret
  all_goals refine ⟨rfl, A1, cc, B1, ce, copy_dm HR2.out (Nat.le_refl _) (H1.out.1.below H2.out.2) H2.out.1 (by show w.heap.size < W0.heap.size; rw [S0.out]; omega) (by have := H1.out.2.size; show w.heap.size < w1.heap.size; have h2 : W0.heap.size ≤ w1.heap.size := this; rw [S0.out] at h2; omega) (fun k q => ?_), below_setc _ (below_setc _ (below_then (below_then HB0.out HB0.out.size (below_then (below_drawn (Below.refl _ _) 1) (Nat.le_refl _) H1.out.2)) (Nat.le_trans HB0.out.size H1.out.2.size) H2.out.2) (Nat.le_refl _)) (Nat.le_refl _)⟩
  all_goals
    rcases H1.out.1.addr with q2 | ⟨i, q2, _, q3⟩
    · rw [q2] at q
      cases q
    · rw [q2] at q
      injection q with q
      injection q with q
      omega
set_option maxHeartbeats 4000000 in
set_option maxRecDepth 100000 in
theorem write_down (base g : Nat) (A : Option Addr) (n c : Nat) (B : Option Addr) (m e : Nat) (d : DV) (at_ : Int) (K : Option Addr) (kn kc : Nat) (w : World) (h : DM w base g A n c B m e d) (hd : d.down = true) (hkl : kn ≤ 140737488355328) :
    Calls Try.prog 13 #[.pointer (some ⟨g, 0, none⟩), .int .i64 at_, .slice K kn kc] w fun e' w' => e' = .returned (.int .i64 10) ∧ w = w' := by
  obtain ⟨c0, c1, c2, c3, c4, c5⟩ := row6_cells h.row
  rw [hd] at c5
  clear hd
  go_enter Try.func13, Try.ntmps13
  go_wp2_with fail
  go_ret
  exact ⟨rfl, rfl⟩
set_option maxHeartbeats 4000000 in
set_option maxRecDepth 100000 in
theorem write_arg (base g : Nat) (A : Option Addr) (n c : Nat) (B : Option Addr) (m e : Nat) (d : DV) (at_ : Int) (K : Option Addr) (kn kc : Nat) (w : World) (h : DM w base g A n c B m e d) (hd : d.down = false) (hkl : kn ≤ 140737488355328) (hm : kn / 64 = 0 ∨ kn % 64 ≠ 0) :
    Calls Try.prog 13 #[.pointer (some ⟨g, 0, none⟩), .int .i64 at_, .slice K kn kc] w fun e' w' => e' = .returned (.int .i64 1) ∧ w = w' := by
  obtain ⟨c0, c1, c2, c3, c4, c5⟩ := row6_cells h.row
  rw [hd] at c5
  clear hd
  obtain ⟨q, hv⟩ : ∃ q : Int, (kn : Int) / 64 = q := ⟨_, rfl⟩
  obtain ⟨r, hr⟩ : ∃ r : Int, (kn : Int) % 64 = r := ⟨_, rfl⟩
  by_cases hq : q = 0
  · have q0 : (q == 0) = true := beq_iff_eq.2 hq
    clear hq
    go_enter Try.func13, Try.ntmps13
    go_wp2_with fail
    go_ret
    exact ⟨rfl, rfl⟩
  · have q0 : (q == 0) = false := beq_eq_false_iff_ne.2 hq
    have r0 : (r == 0) = false := beq_eq_false_iff_ne.2 (by omega)
    clear hq
    go_enter Try.func13, Try.ntmps13
    go_wp2_with fail
    go_ret
    exact ⟨rfl, rfl⟩
set_option maxHeartbeats 4000000 in
set_option maxRecDepth 100000 in
theorem write_range (base g : Nat) (A : Option Addr) (n c : Nat) (B : Option Addr) (m e : Nat) (d : DV) (at_ : Int) (K : Option Addr) (kn kc : Nat) (w : World) (h : DM w base g A n c B m e d) (hd : d.down = false) (hkl : kn ≤ 140737488355328) (hm : ¬ (kn / 64 = 0 ∨ kn % 64 ≠ 0)) (hh : hasB n at_ ((kn / 64 : Nat) : Int) = false) :
    Calls Try.prog 13 #[.pointer (some ⟨g, 0, none⟩), .int .i64 at_, .slice K kn kc] w fun e' w' => e' = .returned (.int .i64 11) ∧ w = w' := by
  obtain ⟨c0, c1, c2, c3, c4, c5⟩ := row6_cells h.row
  rw [hd] at c5
  clear hd
  obtain ⟨q, hq⟩ : ∃ q, kn / 64 = q := ⟨_, rfl⟩
  rw [hq] at hh
  have hv : (kn : Int) / 64 = (q : Int) := by omega
  have hr : (kn : Int) % 64 = 0 := by omega
  have q0 : ((q : Int) == 0) = false := beq_eq_false_iff_ne.2 (by omega)
  have HD := Aside0.mk h
  have HH := Aside0.mk hh
  clear hh hq hm h
  go_enter Try.func13, Try.ntmps13
  go_wp2_with (go_at_call 30; refine (hasd_any base g A n c B m e d at_ (q : Int) w HD.out).mono ?_; rintro e1 w1 ⟨rfl, rfl⟩; rw [HH.out])
  go_ret
  exact ⟨rfl, rfl⟩
end Go.Proofs.Ytcegphnhohpegaa
