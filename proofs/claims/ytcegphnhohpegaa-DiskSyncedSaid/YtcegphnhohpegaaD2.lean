/- The walks of disk's small functions. -/
import Derived.Test.YtcegphnhohpegaaD1
set_option linter.unusedVariables false
set_option linter.unusedSimpArgs false
namespace Go.Proofs.Ytcegphnhohpegaa
open Go.RowKit

def limI (limit : Int) : Int := if limit < 0 then 0 else if 65536 < limit then 65536 else limit
set_option maxHeartbeats 1000000 in
theorem size_any (base g : Nat) (A : Option Addr) (n c : Nat) (B : Option Addr) (m e : Nat) (d : DV) (w : World) (h : DM w base g A n c B m e d) :
    Calls Try.prog 12 #[.pointer (some ⟨g, 0, none⟩)] w fun e w' => e = .returned (.int .i64 (n : Int)) ∧ w = w' := by
  obtain ⟨c0, c1, c2, c3, c4, c5⟩ := row6_cells h.row
  go_enter Try.func12, Try.ntmps12
  go_wp2
  go_ret
  exact ⟨rfl, rfl⟩
set_option maxHeartbeats 1000000 in
theorem limit_any (base g : Nat) (A : Option Addr) (n c : Nat) (B : Option Addr) (m e : Nat) (d : DV) (w : World) (h : DM w base g A n c B m e d) :
    Calls Try.prog 26 #[.pointer (some ⟨g, 0, none⟩)] w fun e w' => e = .returned (.int .i64 d.limit) ∧ w = w' := by
  obtain ⟨c0, c1, c2, c3, c4, c5⟩ := row6_cells h.row
  go_enter Try.func26, Try.ntmps26
  go_wp2
  go_ret
  exact ⟨rfl, rfl⟩
set_option maxHeartbeats 1000000 in
theorem down_any (base g : Nat) (A : Option Addr) (n c : Nat) (B : Option Addr) (m e : Nat) (d : DV) (w : World) (h : DM w base g A n c B m e d) :
    Calls Try.prog 17 #[.pointer (some ⟨g, 0, none⟩)] w fun e w' => e = .returned (.bool d.down) ∧ w = w' := by
  obtain ⟨c0, c1, c2, c3, c4, c5⟩ := row6_cells h.row
  go_enter Try.func17, Try.ntmps17
  go_wp2
  go_ret
  exact ⟨rfl, rfl⟩
set_option maxHeartbeats 1000000 in
theorem ops_any (base g : Nat) (A : Option Addr) (n c : Nat) (B : Option Addr) (m e : Nat) (d : DV) (w : World) (h : DM w base g A n c B m e d) :
    Calls Try.prog 18 #[.pointer (some ⟨g, 0, none⟩)] w fun e w' => e = .returned (.int .i64 d.ops) ∧ w = w' := by
  obtain ⟨c0, c1, c2, c3, c4, c5⟩ := row6_cells h.row
  go_enter Try.func18, Try.ntmps18
  go_wp2
  go_ret
  exact ⟨rfl, rfl⟩
set_option maxHeartbeats 1000000 in
theorem pending_any (base g : Nat) (A : Option Addr) (n c : Nat) (B : Option Addr) (m e : Nat) (d : DV) (w : World) (h : DM w base g A n c B m e d) :
    Calls Try.prog 20 #[.pointer (some ⟨g, 0, none⟩)] w fun e w' => e = .returned (.int .i64 (m : Int)) ∧ w = w' := by
  obtain ⟨c0, c1, c2, c3, c4, c5⟩ := row6_cells h.row
  go_enter Try.func20, Try.ntmps20
  go_wp2
  go_ret
  exact ⟨rfl, rfl⟩
set_option maxHeartbeats 1000000 in
set_option maxRecDepth 100000 in
theorem new_any (limit : Int) (w : World) :
    Calls Try.prog 22 #[.int .i64 limit] w fun e w' => ∃ g, e = .returned (.pointer (some ⟨g, 0, none⟩)) ∧ DM w' w.heap.size g none 0 0 none 0 0 ⟨limI limit, [], [], 0, -1, false⟩ ∧ Below w.heap.size w w' := by
  rcases (show limit < 0 ∨ (0 ≤ limit ∧ 65536 < limit) ∨ (0 ≤ limit ∧ limit ≤ 65536) by omega) with h | ⟨h, k⟩ | ⟨h, k⟩
  · have d1 : limI limit = 0 := if_pos h
    rw [d1]
    go_enter Try.func22, Try.ntmps22
    go_wp2
    go_ret
    exact ⟨_, rfl, dm_new w 0, (Below.refl _ _).alloc (Nat.le_refl _) _⟩
  · have d1 : limI limit = 65536 := (if_neg (by omega)).trans (if_pos k)
    rw [d1]
    go_enter Try.func22, Try.ntmps22
    go_wp2
    go_ret
    exact ⟨_, rfl, dm_new w 65536, (Below.refl _ _).alloc (Nat.le_refl _) _⟩
  · have d1 : limI limit = limit := (if_neg (by omega)).trans (if_neg (by omega))
    rw [d1]
    go_enter Try.func22, Try.ntmps22
    go_wp2
    go_ret
    exact ⟨_, rfl, dm_new w limit, (Below.refl _ _).alloc (Nat.le_refl _) _⟩
set_option maxHeartbeats 1000000 in
set_option maxRecDepth 100000 in
theorem arm_any (base g : Nat) (A : Option Addr) (n c : Nat) (B : Option Addr) (m e : Nat) (d : DV) (k : Int) (w : World) (h : DM w base g A n c B m e d) :
    Calls Try.prog 16 #[.pointer (some ⟨g, 0, none⟩), .int .i64 k] w fun e' w' => e' = .returned (.tuple #[]) ∧ DM w' base g A n c B m e { d with fuse := if k < -1 then -1 else k } ∧ OnlyB g w w' := by
  obtain ⟨c0, c1, c2, c3, c4, c5⟩ := row6_cells h.row
  have ff := fun j => Go.Joins.unfrozen_of_block h.row j
  by_cases hk : k < -1
  · rw [if_pos hk]
    have HD := Aside0.mk (h.turn (d1 := { d with fuse := -1 }) (((OnlyB.refl g w).set 4 (.int .i64 (-1)))) rfl rfl (heap_setCell_same w g 4 _ _ (.int .i64 (-1)) h.row))
    go_enter Try.func16, Try.ntmps16
    go_wp2
    first | go_end0 | refine bodyPost_ret (results_none rfl _ _ _) rfl ?_
    exact ⟨rfl, HD.out, (OnlyB.refl g w).set 4 _⟩
  · rw [if_neg hk]
    have HD := Aside0.mk (h.turn (d1 := { d with fuse := k }) (((OnlyB.refl g w).set 4 (.int .i64 k))) rfl rfl (heap_setCell_same w g 4 _ _ (.int .i64 k) h.row))
    go_enter Try.func16, Try.ntmps16
    go_wp2
    first | go_end0 | refine bodyPost_ret (results_none rfl _ _ _) rfl ?_
    exact ⟨rfl, HD.out, (OnlyB.refl g w).set 4 _⟩
/-- An op more. -/
def opD (d : DV) : DV := { d with ops := d.ops + 1, down := d.fuse == 0, fuse := if d.fuse - 1 < -1 then -1 else d.fuse - 1 }
set_option maxHeartbeats 1000000 in
set_option maxRecDepth 100000 in
theorem op_any (base g : Nat) (A : Option Addr) (n c : Nat) (B : Option Addr) (m e : Nat) (d : DV) (w : World) (h : DM w base g A n c B m e d) (h0 : 0 ≤ d.ops) (h1 : d.ops ≤ 1000000) (h2 : -1 ≤ d.fuse) (h3 : d.fuse ≤ 9223372036854775807) :
    Calls Try.prog 27 #[.pointer (some ⟨g, 0, none⟩)] w fun e' w' => e' = .returned (.bool (!(opD d).down)) ∧ DM w' base g A n c B m e (opD d) ∧ OnlyB g w w' := by
  obtain ⟨c0, c1, c2, c3, c4, c5⟩ := row6_cells h.row
  have ff := fun j => Go.Joins.unfrozen_of_block h.row j
  have key : ∀ x : Int, (if d.fuse - 1 < -1 then -1 else d.fuse - 1) = x → DM (((w.setCell ⟨g, 3, none⟩ (.int .i64 (d.ops + 1))).setCell ⟨g, 5, none⟩ (.bool (d.fuse == 0))).setCell ⟨g, 4, none⟩ (.int .i64 x)) base g A n c B m e (opD d) ∧ OnlyB g w (((w.setCell ⟨g, 3, none⟩ (.int .i64 (d.ops + 1))).setCell ⟨g, 5, none⟩ (.bool (d.fuse == 0))).setCell ⟨g, 4, none⟩ (.int .i64 x)) := by
    intro x hx
    have ho := (((OnlyB.refl g w).set 3 (.int .i64 (d.ops + 1))).set 5 (.bool (d.fuse == 0))).set 4 (.int .i64 x)
    refine ⟨h.turn ho rfl rfl ?_, ho⟩
    have r := heap_setCell_same _ g 4 _ _ (.int .i64 x) (heap_setCell_same _ g 5 _ _ (.bool (d.fuse == 0)) (heap_setCell_same w g 3 _ _ (.int .i64 (d.ops + 1)) h.row))
    rw [r]
    unfold opD
    rw [hx]
    rfl
  have HK := Aside0.mk key
  clear key
  by_cases hf : d.fuse - 1 < -1
  · have hx : (if d.fuse - 1 < -1 then -1 else d.fuse - 1) = -1 := if_pos hf
    have HX := Aside0.mk hx
    clear hx
    go_enter Try.func27, Try.ntmps27
    go_wp2
    go_ret
    exact ⟨rfl, HK.out _ HX.out⟩
  · have hx : (if d.fuse - 1 < -1 then -1 else d.fuse - 1) = d.fuse - 1 := if_neg hf
    have HX := Aside0.mk hx
    clear hx
    go_enter Try.func27, Try.ntmps27
    go_wp2
    go_ret
    exact ⟨rfl, HK.out _ HX.out⟩
def hasB (n : Nat) (at_ many : Int) : Bool := decide (0 ≤ at_ ∧ 0 ≤ many ∧ at_ ≤ (n : Int) ∧ many ≤ (n : Int) - at_)
set_option maxHeartbeats 4000000 in
set_option maxRecDepth 100000 in
theorem hasd_any (base g : Nat) (A : Option Addr) (n c : Nat) (B : Option Addr) (m e : Nat) (d : DV) (at_ many : Int) (w : World) (h : DM w base g A n c B m e d) :
    Calls Try.prog 30 #[.pointer (some ⟨g, 0, none⟩), .int .i64 at_, .int .i64 many] w fun e' w' => e' = .returned (.bool (hasB n at_ many)) ∧ w = w' := by
  obtain ⟨c0, c1, c2, c3, c4, c5⟩ := row6_cells h.row
  have hl := h.sl.lim
  by_cases g1 : 0 ≤ at_
  · by_cases g2 : 0 ≤ many
    · by_cases g3 : at_ ≤ (n : Int)
      · have d1 : decide (0 ≤ at_) = true := decide_eq_true g1
        have d2 : decide (0 ≤ many) = true := decide_eq_true g2
        have d3 : decide (at_ ≤ (n : Int)) = true := decide_eq_true g3
        have hv : hasB n at_ many = decide (many ≤ (n : Int) - at_) := by unfold hasB; simp [g1, g2, g3]
        have HV := Aside0.mk hv
        clear hv
        go_enter Try.func30, Try.ntmps30
        go_wp2_with fail
        go_ret
        exact ⟨ret_bool HV.out.symm, rfl⟩
      · have d1 : decide (0 ≤ at_) = true := decide_eq_true g1
        have d2 : decide (0 ≤ many) = true := decide_eq_true g2
        have d3 : decide (at_ ≤ (n : Int)) = false := decide_eq_false g3
        have HV := Aside0.mk (show hasB n at_ many = false from decide_eq_false (fun k => by omega))
        go_enter Try.func30, Try.ntmps30
        go_wp2_with fail
        go_ret
        exact ⟨ret_bool HV.out.symm, rfl⟩
    · have d1 : decide (0 ≤ at_) = true := decide_eq_true g1
      have d2 : decide (0 ≤ many) = false := decide_eq_false g2
      have HV := Aside0.mk (show hasB n at_ many = false from decide_eq_false (fun k => by omega))
      go_enter Try.func30, Try.ntmps30
      go_wp2_with fail
      go_ret
      exact ⟨ret_bool HV.out.symm, rfl⟩
  · have d1 : decide (0 ≤ at_) = false := decide_eq_false g1
    have HV := Aside0.mk (show hasB n at_ many = false from decide_eq_false (fun k => by omega))
    go_enter Try.func30, Try.ntmps30
    go_wp2_with fail
    go_ret
    exact ⟨ret_bool HV.out.symm, rfl⟩
end Go.Proofs.Ytcegphnhohpegaa
