/- The walks of item's functions over an item: Far, Long, KidRoom, Room, Right, Of. -/
import Derived.Test.YtaoaenjhclicfabI2
import Derived.Test.YtaoaenjhclicfabA3
import Derived.Test.YtaoaenjhclicfabQ0
set_option linter.unusedVariables false
set_option linter.unusedSimpArgs false
namespace Go.Proofs.Ytaoaenjhclicfab
open Go.RowKit

theorem item_cells {w w1 : World} {T : TypeId} {fr : Nat × Nat} {a b c d : Value} (hB : Below (w.alloc (.cells #[a, b, c, d] T fr)).heap.size (w.alloc (.cells #[a, b, c, d] T fr)) w1) :
    w1.cell? ⟨w.heap.size, 0, none⟩ = some a ∧ w1.cell? ⟨w.heap.size, 1, none⟩ = some b ∧ w1.cell? ⟨w.heap.size, 2, none⟩ = some c ∧ w1.cell? ⟨w.heap.size, 3, none⟩ = some d :=
  ⟨cell_below hB (by rw [World.cell?_alloc_mark]; rfl), cell_below hB (by rw [World.cell?_alloc_mark]; rfl), cell_below hB (by rw [World.cell?_alloc_mark]; rfl), cell_below hB (by rw [World.cell?_alloc_mark]; rfl)⟩
theorem item_row {w w1 : World} {o : Obj} (hB : Below (w.alloc o).heap.size (w.alloc o) w1) : w1.heap[w.heap.size]? = some o := by
  rw [hB.block _ (by simp)]
  exact heap_alloc_new w o
theorem below_new {w w1 : World} {o : Obj} (hB : Below (w.alloc o).heap.size (w.alloc o) w1) : Below w.heap.size w w1 :=
  below_then ((Below.refl w.heap.size w).alloc (Nat.le_refl _) _) (by simp) hB
theorem item_cells2 {W : World} {g : Nat} {a b c d : Value} {fr : Nat × Nat} {T : TypeId} (hh : W.heap[g]? = some (.cells #[a, b, c, d] T fr)) :
    W.cell? ⟨g, 0, none⟩ = some a ∧ W.cell? ⟨g, 1, none⟩ = some b ∧ W.cell? ⟨g, 2, none⟩ = some c ∧ W.cell? ⟨g, 3, none⟩ = some d :=
  ⟨by rw [cell_of_row _ _ _ _ _ _ hh]; rfl, by rw [cell_of_row _ _ _ _ _ _ hh]; rfl, by rw [cell_of_row _ _ _ _ _ _ hh]; rfl, by rw [cell_of_row _ _ _ _ _ _ hh]; rfl⟩
theorem row_below {w w1 : World} {g : Nat} {o : Obj} (h : w.heap[g]? = some o) (hB : Below w.heap.size w w1) : w1.heap[g]? = some o := by
  rw [hB.block _ (Array.getElem?_eq_some_iff.1 h).1]
  exact h
/-- A boxed item, some steps on. -/
structure IRow (w : World) (a b c d : Value) (T : TypeId) (W : World) : Prop where
  row : W.heap[w.heap.size]? = some (.cells #[a, b, c, d] T)
  bel : Below w.heap.size w W
theorem IRow.mk0 {w w1 : World} {a b c d : Value} {T : TypeId} (hB : Below (w.alloc (.cells #[a, b, c, d] T)).heap.size (w.alloc (.cells #[a, b, c, d] T)) w1) : IRow w a b c d T w1 :=
  ⟨item_row hB, below_new hB⟩
theorem IRow.step {w W W1 : World} {a b c d : Value} {T : TypeId} (h : IRow w a b c d T W) (hB : Below W.heap.size W W1) : IRow w a b c d T W1 :=
  ⟨row_below h.row hB, below_then h.bel h.bel.size hB⟩
theorem IRow.thaw {w W : World} {a b c d : Value} {T : TypeId} (h : IRow w a b c d T W) (j : Nat) : W.frozen? ⟨w.heap.size, j, none⟩ = false := by simp [World.frozen?, h.row]
theorem IRow.cells {w W : World} {a b c d : Value} {T : TypeId} (h : IRow w a b c d T W) : W.cell? ⟨w.heap.size, 0, none⟩ = some a ∧ W.cell? ⟨w.heap.size, 1, none⟩ = some b ∧ W.cell? ⟨w.heap.size, 2, none⟩ = some c ∧ W.cell? ⟨w.heap.size, 3, none⟩ = some d := by
  exact item_cells2 h.row
theorem load_item {W : World} {g : Nat} {a b c d : Value} {fr : Nat × Nat} {T : TypeId} (hh : W.heap[g]? = some (.cells #[a, b, c, d] T fr)) : (loadVar 27 ⟨g, 0, none⟩).run Try.prog W = .ok (.agg #[a, b, c, d]) W :=
  run_loadVar_row W g T 27 _ fr _ hh Try.underlying27 rfl (by kernel_rfl)
theorem load_ritem {W : World} {g : Nat} {a b c d : Value} {fr : Nat × Nat} {T : TypeId} (hh : W.heap[g]? = some (.cells #[a, b, c, d] T fr)) : (loadVar 24 ⟨g, 0, none⟩).run Try.prog W = .ok (.agg #[a, b, c, d]) W :=
  run_loadVar_row W g T 24 _ fr _ hh Try.underlying24 rfl (by kernel_rfl)
theorem IRow.load {w W : World} {a b c d : Value} {T : TypeId} (h : IRow w a b c d T W) : (loadVar 27 ⟨w.heap.size, 0, none⟩).run Try.prog W = .ok (.agg #[a, b, c, d]) W := by
  exact load_item h.row
theorem IRow.loadr {w W : World} {a b c d : Value} {T : TypeId} (h : IRow w a b c d T W) : (loadVar 24 ⟨w.heap.size, 0, none⟩).run Try.prog W = .ok (.agg #[a, b, c, d]) W := by
  exact load_ritem h.row
def farB (nv : Nat) (r : Int) : Bool := !decide (r = 0) || decide (32 < (nv : Int))
def longI (nv : Nat) (s r : Int) : Int := if r = 0 then (nv : Int) else s
set_option maxHeartbeats 1000000 in
set_option maxRecDepth 100000 in
theorem far_any (Ak : Option Addr) (nk ck : Nat) (Av : Option Addr) (nv cv : Nat) (s r : Int) (w : World) :
    Calls Try.prog 82 #[.agg #[.slice Ak nk ck, .slice Av nv cv, .int .i64 s, .int .i64 r]] w fun e w' => e = .returned (.bool (farB nv r)) ∧ Below w.heap.size w w' := by
  by_cases h : r = 0
  · subst h
    go_enter Try.func82, Try.ntmps82
    go_wp2
    go_ret
    exact ⟨ret_bool (by unfold farB; simp), (Below.refl _ _).alloc (Nat.le_refl _) _⟩
  · have h1 : (r == 0) = false := beq_f h
    have h2 : (r != 0) = true := bne_t h
    go_enter Try.func82, Try.ntmps82
    go_wp2
    go_ret
    exact ⟨ret_bool (by unfold farB; simp [h]), (Below.refl _ _).alloc (Nat.le_refl _) _⟩
set_option maxHeartbeats 1000000 in
set_option maxRecDepth 100000 in
theorem long_any (Ak : Option Addr) (nk ck : Nat) (Av : Option Addr) (nv cv : Nat) (s r : Int) (w : World) :
    Calls Try.prog 83 #[.agg #[.slice Ak nk ck, .slice Av nv cv, .int .i64 s, .int .i64 r]] w fun e w' => e = .returned (.int .i64 (longI nv s r)) ∧ Below w.heap.size w w' := by
  by_cases h : r = 0
  · subst h
    go_enter Try.func83, Try.ntmps83
    go_wp2
    go_ret
    exact ⟨ret_int (by unfold longI; simp), (Below.refl _ _).alloc (Nat.le_refl _) _⟩
  · have h1 : (r == 0) = false := beq_f h
    have h2 : (r != 0) = true := bne_t h
    go_enter Try.func83, Try.ntmps83
    go_wp2
    go_ret
    exact ⟨ret_int (by unfold longI; simp [h]), (Below.refl _ _).alloc (Nat.le_refl _) _⟩
def kidI (g : Int) (nk : Nat) : Int := if genB g = true then 1 + (nk : Int) + iwI g else 0
set_option maxHeartbeats 1000000 in
set_option maxRecDepth 100000 in
theorem kid_any (g : Int) (Ak : Option Addr) (nk ck : Nat) (w : World) (hk : nk ≤ 140737488355328) :
    Calls Try.prog 20 #[.int .i64 g, .slice Ak nk ck] w fun e w' => e = .returned (.int .i64 (kidI g nk)) ∧ Below w.heap.size w w' := by
  obtain ⟨r0, r1⟩ := iw_range g
  cases hg : genB g with
  | true =>
    go_enter Try.func20, Try.ntmps20
    go_wp2_with (first | (go_at_call 87; refine (gen_any _ _).mono ?_; rintro e w1 ⟨rfl, rfl⟩; rw [hg]) | (go_at_call 90; refine (idWidth_any _ _).mono ?_; rintro e w1 ⟨rfl, hB⟩))
    go_ret
    exact ⟨ret_int (by unfold kidI; rw [if_pos hg]), hB⟩
  | false =>
    go_enter Try.func20, Try.ntmps20
    go_wp2_with (first | (go_at_call 87; refine (gen_any _ _).mono ?_; rintro e w1 ⟨rfl, rfl⟩; rw [hg]) | (go_at_call 90; refine (idWidth_any _ _).mono ?_; rintro e w1 ⟨rfl, hB⟩))
    go_ret
    exact ⟨ret_int (by unfold kidI; rw [if_neg (by simp [hg])]), Below.refl _ _⟩
def roomI (g : Int) (nk nv : Nat) (r : Int) : Int := if genB g = true then (if farB nv r = true then 4 + (nk : Int) + iwI g else 4 + (nk : Int) + (nv : Int)) else 0
set_option maxHeartbeats 1000000 in
set_option maxRecDepth 100000 in
theorem room_any (g : Int) (Ak : Option Addr) (nk ck : Nat) (Av : Option Addr) (nv cv : Nat) (s r : Int) (w : World) (hk : nk ≤ 140737488355328) (hv : nv ≤ 140737488355328) :
    Calls Try.prog 19 #[.int .i64 g, .agg #[.slice Ak nk ck, .slice Av nv cv, .int .i64 s, .int .i64 r]] w fun e w' => e = .returned (.int .i64 (roomI g nk nv r)) ∧ Below w.heap.size w w' := by
  obtain ⟨r0, r1⟩ := iw_range g
  cases hg : genB g with
  | true =>
    cases hf : farB nv r with
    | true =>
      go_enter Try.func19, Try.ntmps19
      go_wp2_with (first | (go_at_call 87; refine (gen_any _ _).mono ?_; rintro e w1 ⟨rfl, rfl⟩; rw [hg]) | (go_at_call 82; refine (far_any Ak nk ck Av nv cv s r _).mono ?_; rintro e w1 ⟨rfl, hB1⟩; rw [hf]))
      obtain ⟨c0, c1, c2, c3⟩ := item_cells hB1
      replace hB1 := Aside0.mk (below_new hB1)
      refine wp_region_ext (by kernel_rfl) (by kernel_rfl) ?_
      have d0 := cell_ext c0
      repeat (go_big_quiet_step ((go_at_call 90; exact Calls.ext_of (idWidth_any _ _))))
      refine wpQuiet_nil ?_
      rintro w' ⟨kx, rfl⟩
      have hBk := below_then hB1.out hB1.out.size kx.bel
      go_wp2
      go_ret
      exact ⟨ret_int (by unfold roomI; rw [if_pos hg, if_pos hf]), hBk⟩
    | false =>
      go_enter Try.func19, Try.ntmps19
      go_wp2_with (first | (go_at_call 87; refine (gen_any _ _).mono ?_; rintro e w1 ⟨rfl, rfl⟩; rw [hg]) | (go_at_call 82; refine (far_any Ak nk ck Av nv cv s r _).mono ?_; rintro e w1 ⟨rfl, hB1⟩; rw [hf]; obtain ⟨c0, c1, c2, c3⟩ := item_cells hB1; replace hB1 := Aside0.mk (below_new hB1)))
      go_ret
      exact ⟨ret_int (by unfold roomI; rw [if_pos hg, if_neg (by simp [hf])]), hB1.out⟩
  | false =>
    go_enter Try.func19, Try.ntmps19
    go_wp2_with (first | (go_at_call 87; refine (gen_any _ _).mono ?_; rintro e w1 ⟨rfl, rfl⟩; rw [hg]))
    go_ret
    exact ⟨ret_int (by unfold roomI; rw [if_neg (by simp [hg])]), (Below.refl _ _).alloc (Nat.le_refl _) _⟩

/-- Which items may be. -/
def rightB (g : Int) (nk nv : Nat) (s r : Int) : Bool := decide (whyI g nk nv = 0 ∧ longI nv s r ≤ mvI g) && (if r = 0 then decide (s = 0) else decide (2 ≤ r ∧ r < 16384 ∧ 32 < s ∧ nv = 0))
set_option maxHeartbeats 1000000 in
set_option maxRecDepth 100000 in
theorem right_any (g : Int) (Ak : Option Addr) (nk ck : Nat) (Av : Option Addr) (nv cv : Nat) (s r : Int) (w : World) (hk : nk ≤ 140737488355328) (hv : nv ≤ 140737488355328) :
    Calls Try.prog 17 #[.int .i64 g, .agg #[.slice Ak nk ck, .slice Av nv cv, .int .i64 s, .int .i64 r]] w fun e w' => e = .returned (.bool (rightB g nk nv s r)) ∧ Below w.heap.size w w' := by
  by_cases h1 : whyI g nk nv = 0
  · have h1a : (whyI g nk nv != 0) = false := bne_f h1
    by_cases h2 : longI nv s r ≤ mvI g
    · have h2a : decide (mvI g < longI nv s r) = false := decide_eq_false (by omega)
      have h12 := Aside0.mk (show decide (whyI g nk nv = 0 ∧ longI nv s r ≤ mvI g) = true from decide_eq_true ⟨h1, h2⟩)
      clear h2
      by_cases h3 : r = 0
      · have h3a : (r == 0) = true := beq_t h3
        clear h3a
        subst h3
        have HV := Aside0.mk (show rightB g nk nv s 0 = decide (s = 0) from by unfold rightB; rw [h12.out, if_pos rfl, Bool.true_and])
        go_enter Try.func17, Try.ntmps17
        go_wp2_with (first | (go_at_call 18; refine (why_any g Ak nk ck Av nv cv _ hk hv).mono ?_; rintro e w1 ⟨rfl, hB1⟩; (have HR1 := Aside0.mk (IRow.mk0 hB1)); obtain ⟨c0, c1, c2, c3⟩ := HR1.out.cells; (have cl := HR1.out.load); clear hB1) | (go_at_call 83; refine (long_any Ak nk ck Av nv cv s _ _).mono ?_; rintro e w2 ⟨rfl, hB2⟩; (have HR2 := Aside0.mk (HR1.out.step hB2)); clear hB2) | (go_at_call 89; refine (maxValue_any g _).mono ?_; rintro e w3 ⟨rfl, hB3⟩; (have HR3 := Aside0.mk (HR2.out.step hB3)); (obtain ⟨e0, e1, e2, e3⟩ := HR3.out.cells); clear hB3))
        go_ret
        exact ⟨ret_bool (by rw [HV.out]; first | done | rfl | (rw [Bool.eq_iff_iff]; simp)), HR3.out.bel⟩
      · have h3a : (r == 0) = false := beq_f h3
        have h3' := Aside0.mk h3
        by_cases h4 : 2 ≤ r
        · have h4a : decide (2 ≤ r) = true := decide_eq_true h4
          by_cases h5 : r < 16384
          · have h5a : decide (r < 16384) = true := decide_eq_true h5
            by_cases h6 : 32 < s
            · have h6a : decide (32 < s) = true := decide_eq_true h6
              have HV := Aside0.mk (show rightB g nk nv s r = decide ((nv : Int) = 0) from by unfold rightB; rw [h12.out, if_neg h3, Bool.true_and]; apply decide_eq_decide.2; omega)
              go_enter Try.func17, Try.ntmps17
              go_wp2_with (first | (go_at_call 18; refine (why_any g Ak nk ck Av nv cv _ hk hv).mono ?_; rintro e w1 ⟨rfl, hB1⟩; (have HR1 := Aside0.mk (IRow.mk0 hB1)); obtain ⟨c0, c1, c2, c3⟩ := HR1.out.cells; (have cl := HR1.out.load); clear hB1) | (go_at_call 83; refine (long_any Ak nk ck Av nv cv s _ _).mono ?_; rintro e w2 ⟨rfl, hB2⟩; (have HR2 := Aside0.mk (HR1.out.step hB2)); clear hB2) | (go_at_call 89; refine (maxValue_any g _).mono ?_; rintro e w3 ⟨rfl, hB3⟩; (have HR3 := Aside0.mk (HR2.out.step hB3)); (obtain ⟨e0, e1, e2, e3⟩ := HR3.out.cells); clear hB3))
              go_ret
              exact ⟨ret_bool (by rw [HV.out]; first | done | rfl | (rw [Bool.eq_iff_iff]; simp)), HR3.out.bel⟩
            · have h6a : decide (32 < s) = false := decide_eq_false h6
              have HV := Aside0.mk (show rightB g nk nv s r = false from by unfold rightB; rw [h12.out, if_neg h3, Bool.true_and]; apply decide_eq_false; omega)
              go_enter Try.func17, Try.ntmps17
              go_wp2_with (first | (go_at_call 18; refine (why_any g Ak nk ck Av nv cv _ hk hv).mono ?_; rintro e w1 ⟨rfl, hB1⟩; (have HR1 := Aside0.mk (IRow.mk0 hB1)); obtain ⟨c0, c1, c2, c3⟩ := HR1.out.cells; (have cl := HR1.out.load); clear hB1) | (go_at_call 83; refine (long_any Ak nk ck Av nv cv s _ _).mono ?_; rintro e w2 ⟨rfl, hB2⟩; (have HR2 := Aside0.mk (HR1.out.step hB2)); clear hB2) | (go_at_call 89; refine (maxValue_any g _).mono ?_; rintro e w3 ⟨rfl, hB3⟩; (have HR3 := Aside0.mk (HR2.out.step hB3)); (obtain ⟨e0, e1, e2, e3⟩ := HR3.out.cells); clear hB3))
              go_ret
              exact ⟨ret_bool (by rw [HV.out]; first | done | rfl | (rw [Bool.eq_iff_iff]; simp)), HR3.out.bel⟩
          · have h5a : decide (r < 16384) = false := decide_eq_false h5
            have HV := Aside0.mk (show rightB g nk nv s r = false from by unfold rightB; rw [h12.out, if_neg h3, Bool.true_and]; apply decide_eq_false; omega)
            go_enter Try.func17, Try.ntmps17
            go_wp2_with (first | (go_at_call 18; refine (why_any g Ak nk ck Av nv cv _ hk hv).mono ?_; rintro e w1 ⟨rfl, hB1⟩; (have HR1 := Aside0.mk (IRow.mk0 hB1)); obtain ⟨c0, c1, c2, c3⟩ := HR1.out.cells; (have cl := HR1.out.load); clear hB1) | (go_at_call 83; refine (long_any Ak nk ck Av nv cv s _ _).mono ?_; rintro e w2 ⟨rfl, hB2⟩; (have HR2 := Aside0.mk (HR1.out.step hB2)); clear hB2) | (go_at_call 89; refine (maxValue_any g _).mono ?_; rintro e w3 ⟨rfl, hB3⟩; (have HR3 := Aside0.mk (HR2.out.step hB3)); (obtain ⟨e0, e1, e2, e3⟩ := HR3.out.cells); clear hB3))
            go_ret
            exact ⟨ret_bool (by rw [HV.out]; first | done | rfl | (rw [Bool.eq_iff_iff]; simp)), HR3.out.bel⟩
        · have h4a : decide (2 ≤ r) = false := decide_eq_false h4
          have HV := Aside0.mk (show rightB g nk nv s r = false from by unfold rightB; rw [h12.out, if_neg h3, Bool.true_and]; apply decide_eq_false; omega)
          go_enter Try.func17, Try.ntmps17
          go_wp2_with (first | (go_at_call 18; refine (why_any g Ak nk ck Av nv cv _ hk hv).mono ?_; rintro e w1 ⟨rfl, hB1⟩; (have HR1 := Aside0.mk (IRow.mk0 hB1)); obtain ⟨c0, c1, c2, c3⟩ := HR1.out.cells; (have cl := HR1.out.load); clear hB1) | (go_at_call 83; refine (long_any Ak nk ck Av nv cv s _ _).mono ?_; rintro e w2 ⟨rfl, hB2⟩; (have HR2 := Aside0.mk (HR1.out.step hB2)); clear hB2) | (go_at_call 89; refine (maxValue_any g _).mono ?_; rintro e w3 ⟨rfl, hB3⟩; (have HR3 := Aside0.mk (HR2.out.step hB3)); (obtain ⟨e0, e1, e2, e3⟩ := HR3.out.cells); clear hB3))
          go_ret
          exact ⟨ret_bool (by rw [HV.out]; first | done | rfl | (rw [Bool.eq_iff_iff]; simp)), HR3.out.bel⟩
    · have h2a : decide (mvI g < longI nv s r) = true := decide_eq_true (by omega)
      have HV := Aside0.mk (show rightB g nk nv s r = false from by unfold rightB; rw [decide_eq_false (fun h => h2 h.2), Bool.false_and])
      go_enter Try.func17, Try.ntmps17
      go_wp2_with (first | (go_at_call 18; refine (why_any g Ak nk ck Av nv cv _ hk hv).mono ?_; rintro e w1 ⟨rfl, hB1⟩; (have HR1 := Aside0.mk (IRow.mk0 hB1)); obtain ⟨c0, c1, c2, c3⟩ := HR1.out.cells; (have cl := HR1.out.load); clear hB1) | (go_at_call 83; refine (long_any Ak nk ck Av nv cv s _ _).mono ?_; rintro e w2 ⟨rfl, hB2⟩; (have HR2 := Aside0.mk (HR1.out.step hB2)); clear hB2) | (go_at_call 89; refine (maxValue_any g _).mono ?_; rintro e w3 ⟨rfl, hB3⟩; (have HR3 := Aside0.mk (HR2.out.step hB3)); (obtain ⟨e0, e1, e2, e3⟩ := HR3.out.cells); clear hB3))
      go_ret
      exact ⟨ret_bool (by rw [HV.out]; first | done | rfl | (rw [Bool.eq_iff_iff]; simp)), HR3.out.bel⟩
  · have h1a : (whyI g nk nv != 0) = true := bne_t h1
    have HV := Aside0.mk (show rightB g nk nv s r = false from by unfold rightB; rw [decide_eq_false (fun h => h1 h.1), Bool.false_and])
    go_enter Try.func17, Try.ntmps17
    go_wp2_with (first | (go_at_call 18; refine (why_any g Ak nk ck Av nv cv _ hk hv).mono ?_; rintro e w1 ⟨rfl, hB1⟩; (have HR1 := Aside0.mk (IRow.mk0 hB1)); obtain ⟨c0, c1, c2, c3⟩ := HR1.out.cells; (have cl := HR1.out.load); clear hB1) | (go_at_call 83; refine (long_any Ak nk ck Av nv cv s _ _).mono ?_; rintro e w2 ⟨rfl, hB2⟩; (have HR2 := Aside0.mk (HR1.out.step hB2)); clear hB2) | (go_at_call 89; refine (maxValue_any g _).mono ?_; rintro e w3 ⟨rfl, hB3⟩; (have HR3 := Aside0.mk (HR2.out.step hB3)); (obtain ⟨e0, e1, e2, e3⟩ := HR3.out.cells); clear hB3))
    go_ret
    exact ⟨ret_bool (by rw [HV.out]; first | done | rfl | (rw [Bool.eq_iff_iff]; simp)), HR1.out.bel⟩

end Go.Proofs.Ytaoaenjhclicfab
