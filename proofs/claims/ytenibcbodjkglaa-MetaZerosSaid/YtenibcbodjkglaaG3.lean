/- The walk of a reader's Get where it is spoiled. -/
import Derived.Test.YtenibcbodjkglaaG2
set_option linter.unusedVariables false
set_option linter.unusedSimpArgs false
namespace Go.Proofs.Ytenibcbodjkglaa
open Go.RowKit Go.Shelf
attribute [local go_sem] Oper.semAt_some

set_option maxRecDepth 100000 in
set_option maxHeartbeats 2000000 in
theorem get_lo (g : Nat) (A : Option Addr) (n c a : Nat) (sp : Bool) (m : Int) (w : World) (h : Cur w g 86 A n c a sp) (hm : m < 1) :
    Calls Try.prog 55 #[.pointer (some ⟨g, 0, none⟩), .int .i64 m] w fun e w' => OnlyB g w w' ∧ e = .returned (.int .i64 0) ∧ Cur w' g 86 A n c a true := by
  have f1 : decide (m < 1) = true := decide_eq_true hm
  obtain ⟨z0, z1, z2⟩ := h.cells
  have z3 := h.thaw
  have hgw : g < w.heap.size := (Array.getElem?_eq_some_iff.1 h.row).1
  refine (callsIn_wide (n := 6)).1 ?_
  have hF : ∀ k, Fence.wide.fn k := fun _ => trivial
  refine callsIn_of_wp_marks Try.func55 rfl (hF _) ?_ rfl
  simp only [Try.ntmps55, List.size_toArray, List.length_cons, List.length_nil, Nat.reduceAdd, Nat.reduceSub, Array.replicate_succ, Array.replicate_zero, List.push_toArray, List.append_toArray, List.nil_append, List.cons_append]
  have h0 : Cur (w.setCell ⟨g, 2, none⟩ (.bool true)) g 86 A n c a true := h.sp
  have hs0 : (w.setCell ⟨g, 2, none⟩ (.bool true)).heap.size = w.heap.size := by simp
  have hO0 : OnlyB g w (w.setCell ⟨g, 2, none⟩ (.bool true)) := (OnlyB.refl g w).set 2 _
  have h' : Cur ((w.setCell ⟨g, 2, none⟩ (.bool true)).alloc (.cells #[.int .u64 0] 92)) g 86 A n c a true := h0.below ((Below.refl _ _).alloc (Nat.le_refl _) _)
  have hO0 := Aside0.mk hO0
  have hs0 := Aside0.mk hs0
  have h0 := Aside0.mk h0
  have hno := Aside0.mk (show true = false → 0 ≤ m → a + m.toNat ≤ n → False from by simp)
  clear h
  gi_wp2_with (first
    | (gi_at_call 44; refine (callsIn_wide.2 (next_any g _ A n c a true m _ h')).mono ?_; rintro e w2 ⟨ho, hsz, ⟨q1, rfl, hc⟩ | ⟨q1, q2, q3, rfl, hc⟩⟩ <;> (first | (have q4 := hno.out q1 q2 q3; exact q4.elim) | skip))
    | (gi_at_call 61; refine (back_in Fence.wide 5 (hF _) rfl _ _ _ _).mono ?_; rintro e w3 ⟨rfl, rfl⟩))
  have hs1 : ((w.setCell ⟨g, 2, none⟩ (.bool true)).alloc (.cells #[.int .u64 0] 92)).heap.size = w.heap.size + 1 := (World.size_alloc ..).trans (congrArg (· + 1) hs0.out)
  have hs2 : w2.heap.size = w.heap.size + 1 := by rw [hsz, hs1]
  have hbx : w2.heap[w.heap.size]? = some (.cells #[.int .u64 0] 92) := by
    refine (ho.block w.heap.size (by omega) (by omega)).trans ?_
    have := heap_alloc_new (w.setCell ⟨g, 2, none⟩ (.bool true)) (.cells #[.int .u64 0] 92)
    rwa [hs0.out] at this
  have bS : Boxed w2 w.heap.size 92 (.int .u64 0) := hbx
  have bN := Boxed.new w2 22 (.slice none 0 0)
  rw [hs2] at bN
  have hb3 : Bb w.heap.size (w.heap.size + 2) (w2.alloc (.cells #[.slice none 0 0] 22)) none 0 0 [] :=
    ⟨Bs.nil _ _ _ (by omega), fun ad e hn => by omega⟩
  have HO := Aside0.mk ho
  have HC := Aside0.mk hc
  clear ho hc
  obtain ⟨W3, hW3⟩ : ∃ W3, w2.alloc (.cells #[.slice none 0 0] 22) = W3 := ⟨_, rfl⟩
  have hs3 : W3.heap.size = w.heap.size + 2 := by rw [← hW3]; simp [hs2]
  have hB3 : Below w2.heap.size w2 W3 := by rw [← hW3]; exact (Below.refl _ _).alloc (Nat.le_refl _) _
  have bS3 : Boxed W3 w.heap.size 92 (.int .u64 0) := by rw [← hW3]; exact bS.alloc _
  rw [hW3] at bN hb3
  rw [hW3]
  clear hW3
  refine wpIn_rangeFunc_ownG (F := Fence.wide) (n := 6) rfl (by decide) (gf := 63) (lb := #[.pointer (some ⟨w.heap.size + 1, 0, none⟩)]) rfl (hF _) (enters_of Try.func63 (by kernel_rfl) rfl)
    (back_stops Fence.wide 5 (hF _) rfl (by decide) (w.heap.size + 1) w.heap.size (w.heap.size + 2) (by omega) (by omega) _ _ _ _ W3 (by omega) bN.cell hb3)
    KX.trans (KX.put (w := W3) (by omega)) (Below.refl _ _) (fun _ => rfl)
    (fun pre W => (W.cell? ⟨w.heap.size, 0, none⟩ = some (.int .u64 (valB pre : Int)) ∧ W.frozen? ⟨w.heap.size, 0, none⟩ = false) ∧ Below w.heap.size W3 W)
    (fun _ _ _ => False)
    (OwnFrom.and (Own.from (fun s A B row hs hg hr => ⟨cell_kept hs.1 hg hr, (frozen_kept hs.1 hg hr).trans hs.2⟩) _) (ownFrom_below (by omega) (by omega)))
    (fun _ _ _ _ _ hs _ _ => hs)
    ⟨⟨bS3.cell, bS3.frozen⟩, Below.refl _ _⟩
    (fun x => { tmps :=
        #[Value.pointer (some { block := g, off := 0 }), Value.int IntKind.i64 m, undef, undef,
          Value.int IntKind.i64 0, Value.pointer (some { block := w.heap.size, off := 0 }), undef, .int .u8 (x.2.toNat : Int),
          Value.int IntKind.i64 m, Value.bool true, Value.bool true, undef, undef, Value.bool true, Value.pointer (some { block := g, off := 0 }), Value.pointer (some { block := g, off := 0 }), Value.pointer (some { block := g, off := 0 }), Value.pointer (some { block := g, off := 2 }), Value.pointer (some { block := g, off := 0 }), Value.pointer (some { block := g, off := 0 }), Value.pointer (some { block := g, off := 0 }),
          Value.int IntKind.i64 m, Value.slice none 0 0,
          Value.func (Fn.func 63) #[] #[Value.pointer (some { block := w.heap.size + 1, off := 0 })], .int .i64 (x.1 : Int), .int .u8 (x.2.toNat : Int),
          undef, undef, undef, undef, undef, undef, undef, undef, undef, undef, undef, undef, undef, undef, undef, undef, undef, undef, undef, undef, undef, undef, undef], defers := [] }) ?assign ?body ?done ?stop
  case assign =>
    intro l x W K hK
    gi_wp2
    exact hK
  case body =>
    rintro l pre x W ⟨⟨hcc, hff⟩, hBB⟩ hlen
    exact absurd hlen (Nat.not_lt_zero _)
  case done =>
    rintro D ys W hD hys ⟨⟨hcc, hff⟩, hBB⟩ hK
    have hys0 : ys = [] := hys
    rw [hys0] at hcc
    have hcc0 : W.cell? ⟨w.heap.size, 0, none⟩ = some (.int .u64 0) := hcc
    have hcur : Cur W g 86 A n c a true := ⟨(hBB.block g hgw).trans ((hB3.block g (by omega)).trans HC.out.row), HC.out.le, HC.out.lim, HC.out.nc⟩
    have hOW : OnlyB g w W := by
      have h1 := hO0.out.trans ((OnlyB.of_below (g := g) ((Below.refl (w.setCell ⟨g, 2, none⟩ (.bool true)).heap.size (w.setCell ⟨g, 2, none⟩ (.bool true))).alloc (Nat.le_refl _) (.cells #[.int .u64 0] 92))).trans (HO.out.trans (OnlyB.of_below hB3)))
      exact ⟨hBB.os.trans h1.os, hBB.tape.trans h1.tape, hBB.output.trans h1.output, Nat.le_trans h1.size hBB.size, fun i hi hn => (hBB.block i hi).trans (h1.block i hi hn)⟩
    have HCu := Aside0.mk hcur
    have HOW := Aside0.mk hOW
    clear hcur hOW hBB hys hcc
    gi_wp2
    refine ⟨by simp, .inl ⟨_, _, rfl, run_takeDeferred hK, ?_⟩⟩
    refine ⟨_, results_tmp rfl _ _ _, ?_, rfl, ?_⟩
    · exact HOW.out.put (by omega) hK rfl rfl _
    · exact HCu.out.put hgw (by omega) hK rfl rfl _
  case stop =>
    rintro D ca pre W _ _ hx _
    exact hx.elim

set_option maxRecDepth 100000 in
set_option maxHeartbeats 2000000 in
theorem get_hi (g : Nat) (A : Option Addr) (n c a : Nat) (sp : Bool) (m : Int) (w : World) (h : Cur w g 86 A n c a sp) (hm : 8 < m) :
    Calls Try.prog 55 #[.pointer (some ⟨g, 0, none⟩), .int .i64 m] w fun e w' => OnlyB g w w' ∧ e = .returned (.int .i64 0) ∧ Cur w' g 86 A n c a true := by
  have f1 : decide (m < 1) = false := decide_eq_false (by omega)
  have f2 : decide (8 < m) = true := decide_eq_true hm
  obtain ⟨z0, z1, z2⟩ := h.cells
  have z3 := h.thaw
  have hgw : g < w.heap.size := (Array.getElem?_eq_some_iff.1 h.row).1
  refine (callsIn_wide (n := 6)).1 ?_
  have hF : ∀ k, Fence.wide.fn k := fun _ => trivial
  refine callsIn_of_wp_marks Try.func55 rfl (hF _) ?_ rfl
  simp only [Try.ntmps55, List.size_toArray, List.length_cons, List.length_nil, Nat.reduceAdd, Nat.reduceSub, Array.replicate_succ, Array.replicate_zero, List.push_toArray, List.append_toArray, List.nil_append, List.cons_append]
  have h0 : Cur (w.setCell ⟨g, 2, none⟩ (.bool true)) g 86 A n c a true := h.sp
  have hs0 : (w.setCell ⟨g, 2, none⟩ (.bool true)).heap.size = w.heap.size := by simp
  have hO0 : OnlyB g w (w.setCell ⟨g, 2, none⟩ (.bool true)) := (OnlyB.refl g w).set 2 _
  have h' : Cur ((w.setCell ⟨g, 2, none⟩ (.bool true)).alloc (.cells #[.int .u64 0] 92)) g 86 A n c a true := h0.below ((Below.refl _ _).alloc (Nat.le_refl _) _)
  have hO0 := Aside0.mk hO0
  have hs0 := Aside0.mk hs0
  have h0 := Aside0.mk h0
  have hno := Aside0.mk (show true = false → 0 ≤ m → a + m.toNat ≤ n → False from by simp)
  clear h
  gi_wp2_with (first
    | (gi_at_call 44; refine (callsIn_wide.2 (next_any g _ A n c a true m _ h')).mono ?_; rintro e w2 ⟨ho, hsz, ⟨q1, rfl, hc⟩ | ⟨q1, q2, q3, rfl, hc⟩⟩ <;> (first | (have q4 := hno.out q1 q2 q3; exact q4.elim) | skip))
    | (gi_at_call 61; refine (back_in Fence.wide 5 (hF _) rfl _ _ _ _).mono ?_; rintro e w3 ⟨rfl, rfl⟩))
  have hs1 : ((w.setCell ⟨g, 2, none⟩ (.bool true)).alloc (.cells #[.int .u64 0] 92)).heap.size = w.heap.size + 1 := (World.size_alloc ..).trans (congrArg (· + 1) hs0.out)
  have hs2 : w2.heap.size = w.heap.size + 1 := by rw [hsz, hs1]
  have hbx : w2.heap[w.heap.size]? = some (.cells #[.int .u64 0] 92) := by
    refine (ho.block w.heap.size (by omega) (by omega)).trans ?_
    have := heap_alloc_new (w.setCell ⟨g, 2, none⟩ (.bool true)) (.cells #[.int .u64 0] 92)
    rwa [hs0.out] at this
  have bS : Boxed w2 w.heap.size 92 (.int .u64 0) := hbx
  have bN := Boxed.new w2 22 (.slice none 0 0)
  rw [hs2] at bN
  have hb3 : Bb w.heap.size (w.heap.size + 2) (w2.alloc (.cells #[.slice none 0 0] 22)) none 0 0 [] :=
    ⟨Bs.nil _ _ _ (by omega), fun ad e hn => by omega⟩
  have HO := Aside0.mk ho
  have HC := Aside0.mk hc
  clear ho hc
  obtain ⟨W3, hW3⟩ : ∃ W3, w2.alloc (.cells #[.slice none 0 0] 22) = W3 := ⟨_, rfl⟩
  have hs3 : W3.heap.size = w.heap.size + 2 := by rw [← hW3]; simp [hs2]
  have hB3 : Below w2.heap.size w2 W3 := by rw [← hW3]; exact (Below.refl _ _).alloc (Nat.le_refl _) _
  have bS3 : Boxed W3 w.heap.size 92 (.int .u64 0) := by rw [← hW3]; exact bS.alloc _
  rw [hW3] at bN hb3
  rw [hW3]
  clear hW3
  refine wpIn_rangeFunc_ownG (F := Fence.wide) (n := 6) rfl (by decide) (gf := 63) (lb := #[.pointer (some ⟨w.heap.size + 1, 0, none⟩)]) rfl (hF _) (enters_of Try.func63 (by kernel_rfl) rfl)
    (back_stops Fence.wide 5 (hF _) rfl (by decide) (w.heap.size + 1) w.heap.size (w.heap.size + 2) (by omega) (by omega) _ _ _ _ W3 (by omega) bN.cell hb3)
    KX.trans (KX.put (w := W3) (by omega)) (Below.refl _ _) (fun _ => rfl)
    (fun pre W => (W.cell? ⟨w.heap.size, 0, none⟩ = some (.int .u64 (valB pre : Int)) ∧ W.frozen? ⟨w.heap.size, 0, none⟩ = false) ∧ Below w.heap.size W3 W)
    (fun _ _ _ => False)
    (OwnFrom.and (Own.from (fun s A B row hs hg hr => ⟨cell_kept hs.1 hg hr, (frozen_kept hs.1 hg hr).trans hs.2⟩) _) (ownFrom_below (by omega) (by omega)))
    (fun _ _ _ _ _ hs _ _ => hs)
    ⟨⟨bS3.cell, bS3.frozen⟩, Below.refl _ _⟩
    (fun x => { tmps :=
        #[Value.pointer (some { block := g, off := 0 }), Value.int IntKind.i64 m, undef, undef,
          Value.int IntKind.i64 0, Value.pointer (some { block := w.heap.size, off := 0 }), undef, .int .u8 (x.2.toNat : Int),
          Value.int IntKind.i64 m, Value.bool false, Value.bool false, Value.int IntKind.i64 m, Value.bool true, Value.bool true, Value.pointer (some { block := g, off := 0 }), Value.pointer (some { block := g, off := 0 }), Value.pointer (some { block := g, off := 0 }), Value.pointer (some { block := g, off := 2 }), Value.pointer (some { block := g, off := 0 }), Value.pointer (some { block := g, off := 0 }), Value.pointer (some { block := g, off := 0 }),
          Value.int IntKind.i64 m, Value.slice none 0 0,
          Value.func (Fn.func 63) #[] #[Value.pointer (some { block := w.heap.size + 1, off := 0 })], .int .i64 (x.1 : Int), .int .u8 (x.2.toNat : Int),
          undef, undef, undef, undef, undef, undef, undef, undef, undef, undef, undef, undef, undef, undef, undef, undef, undef, undef, undef, undef, undef, undef, undef], defers := [] }) ?assign ?body ?done ?stop
  case assign =>
    intro l x W K hK
    gi_wp2
    exact hK
  case body =>
    rintro l pre x W ⟨⟨hcc, hff⟩, hBB⟩ hlen
    exact absurd hlen (Nat.not_lt_zero _)
  case done =>
    rintro D ys W hD hys ⟨⟨hcc, hff⟩, hBB⟩ hK
    have hys0 : ys = [] := hys
    rw [hys0] at hcc
    have hcc0 : W.cell? ⟨w.heap.size, 0, none⟩ = some (.int .u64 0) := hcc
    have hcur : Cur W g 86 A n c a true := ⟨(hBB.block g hgw).trans ((hB3.block g (by omega)).trans HC.out.row), HC.out.le, HC.out.lim, HC.out.nc⟩
    have hOW : OnlyB g w W := by
      have h1 := hO0.out.trans ((OnlyB.of_below (g := g) ((Below.refl (w.setCell ⟨g, 2, none⟩ (.bool true)).heap.size (w.setCell ⟨g, 2, none⟩ (.bool true))).alloc (Nat.le_refl _) (.cells #[.int .u64 0] 92))).trans (HO.out.trans (OnlyB.of_below hB3)))
      exact ⟨hBB.os.trans h1.os, hBB.tape.trans h1.tape, hBB.output.trans h1.output, Nat.le_trans h1.size hBB.size, fun i hi hn => (hBB.block i hi).trans (h1.block i hi hn)⟩
    have HCu := Aside0.mk hcur
    have HOW := Aside0.mk hOW
    clear hcur hOW hBB hys hcc
    gi_wp2
    refine ⟨by simp, .inl ⟨_, _, rfl, run_takeDeferred hK, ?_⟩⟩
    refine ⟨_, results_tmp rfl _ _ _, ?_, rfl, ?_⟩
    · exact HOW.out.put (by omega) hK rfl rfl _
    · exact HCu.out.put hgw (by omega) hK rfl rfl _
  case stop =>
    rintro D ca pre W _ _ hx _
    exact hx.elim

set_option maxRecDepth 100000 in
set_option maxHeartbeats 2000000 in
theorem get_no (g : Nat) (A : Option Addr) (n c a : Nat) (sp : Bool) (m : Int) (w : World) (h : Cur w g 86 A n c a sp) (h1 : 1 ≤ m) (h8 : m ≤ 8) (hm : sp = true ∨ (n : Int) - a < m) :
    Calls Try.prog 55 #[.pointer (some ⟨g, 0, none⟩), .int .i64 m] w fun e w' => OnlyB g w w' ∧ e = .returned (.int .i64 0) ∧ Cur w' g 86 A n c a true := by
  have f1 : decide (m < 1) = false := decide_eq_false (by omega)
  have f2 : decide (8 < m) = false := decide_eq_false (by omega)
  obtain ⟨z0, z1, z2⟩ := h.cells
  have z3 := h.thaw
  have hgw : g < w.heap.size := (Array.getElem?_eq_some_iff.1 h.row).1
  refine (callsIn_wide (n := 6)).1 ?_
  have hF : ∀ k, Fence.wide.fn k := fun _ => trivial
  refine callsIn_of_wp_marks Try.func55 rfl (hF _) ?_ rfl
  simp only [Try.ntmps55, List.size_toArray, List.length_cons, List.length_nil, Nat.reduceAdd, Nat.reduceSub, Array.replicate_succ, Array.replicate_zero, List.push_toArray, List.append_toArray, List.nil_append, List.cons_append]
  have h0 : Cur (w) g 86 A n c a sp := h
  have hs0 : (w).heap.size = w.heap.size := by simp
  have hO0 : OnlyB g w (w) := OnlyB.refl g w
  have h' : Cur ((w).alloc (.cells #[.int .u64 0] 92)) g 86 A n c a sp := h0.below ((Below.refl _ _).alloc (Nat.le_refl _) _)
  have hO0 := Aside0.mk hO0
  have h0 := Aside0.mk h0
  have hno := Aside0.mk (show sp = false → 0 ≤ m → a + m.toNat ≤ n → False from by rintro rfl k1 k2; rcases hm with hm | hm; cases hm; omega)
  clear h
  gi_wp2_with (first
    | (gi_at_call 44; refine (callsIn_wide.2 (next_any g _ A n c a sp m _ h')).mono ?_; rintro e w2 ⟨ho, hsz, ⟨q1, rfl, hc⟩ | ⟨q1, q2, q3, rfl, hc⟩⟩ <;> (first | (have q4 := hno.out q1 q2 q3; exact q4.elim) | skip))
    | (gi_at_call 61; refine (back_in Fence.wide 5 (hF _) rfl _ _ _ _).mono ?_; rintro e w3 ⟨rfl, rfl⟩))
  have hs1 : ((w).alloc (.cells #[.int .u64 0] 92)).heap.size = w.heap.size + 1 := (World.size_alloc ..).trans (congrArg (· + 1) rfl)
  have hs2 : w2.heap.size = w.heap.size + 1 := by rw [hsz, hs1]
  have hbx : w2.heap[w.heap.size]? = some (.cells #[.int .u64 0] 92) := by
    refine (ho.block w.heap.size (by omega) (by omega)).trans ?_
    have := heap_alloc_new (w) (.cells #[.int .u64 0] 92)
    exact this
  have bS : Boxed w2 w.heap.size 92 (.int .u64 0) := hbx
  have bN := Boxed.new w2 22 (.slice none 0 0)
  rw [hs2] at bN
  have hb3 : Bb w.heap.size (w.heap.size + 2) (w2.alloc (.cells #[.slice none 0 0] 22)) none 0 0 [] :=
    ⟨Bs.nil _ _ _ (by omega), fun ad e hn => by omega⟩
  have HO := Aside0.mk ho
  have HC := Aside0.mk hc
  clear ho hc
  obtain ⟨W3, hW3⟩ : ∃ W3, w2.alloc (.cells #[.slice none 0 0] 22) = W3 := ⟨_, rfl⟩
  have hs3 : W3.heap.size = w.heap.size + 2 := by rw [← hW3]; simp [hs2]
  have hB3 : Below w2.heap.size w2 W3 := by rw [← hW3]; exact (Below.refl _ _).alloc (Nat.le_refl _) _
  have bS3 : Boxed W3 w.heap.size 92 (.int .u64 0) := by rw [← hW3]; exact bS.alloc _
  rw [hW3] at bN hb3
  rw [hW3]
  clear hW3
  refine wpIn_rangeFunc_ownG (F := Fence.wide) (n := 6) rfl (by decide) (gf := 63) (lb := #[.pointer (some ⟨w.heap.size + 1, 0, none⟩)]) rfl (hF _) (enters_of Try.func63 (by kernel_rfl) rfl)
    (back_stops Fence.wide 5 (hF _) rfl (by decide) (w.heap.size + 1) w.heap.size (w.heap.size + 2) (by omega) (by omega) _ _ _ _ W3 (by omega) bN.cell hb3)
    KX.trans (KX.put (w := W3) (by omega)) (Below.refl _ _) (fun _ => rfl)
    (fun pre W => (W.cell? ⟨w.heap.size, 0, none⟩ = some (.int .u64 (valB pre : Int)) ∧ W.frozen? ⟨w.heap.size, 0, none⟩ = false) ∧ Below w.heap.size W3 W)
    (fun _ _ _ => False)
    (OwnFrom.and (Own.from (fun s A B row hs hg hr => ⟨cell_kept hs.1 hg hr, (frozen_kept hs.1 hg hr).trans hs.2⟩) _) (ownFrom_below (by omega) (by omega)))
    (fun _ _ _ _ _ hs _ _ => hs)
    ⟨⟨bS3.cell, bS3.frozen⟩, Below.refl _ _⟩
    (fun x => { tmps :=
        #[Value.pointer (some { block := g, off := 0 }), Value.int IntKind.i64 m, undef, undef,
          Value.int IntKind.i64 0, Value.pointer (some { block := w.heap.size, off := 0 }), undef, .int .u8 (x.2.toNat : Int),
          Value.int IntKind.i64 m, Value.bool false, Value.bool false, Value.int IntKind.i64 m, Value.bool false, Value.bool false, undef, undef, undef, undef, Value.pointer (some { block := g, off := 0 }), Value.pointer (some { block := g, off := 0 }), Value.pointer (some { block := g, off := 0 }),
          Value.int IntKind.i64 m, Value.slice none 0 0,
          Value.func (Fn.func 63) #[] #[Value.pointer (some { block := w.heap.size + 1, off := 0 })], .int .i64 (x.1 : Int), .int .u8 (x.2.toNat : Int),
          undef, undef, undef, undef, undef, undef, undef, undef, undef, undef, undef, undef, undef, undef, undef, undef, undef, undef, undef, undef, undef, undef, undef], defers := [] }) ?assign ?body ?done ?stop
  case assign =>
    intro l x W K hK
    gi_wp2
    exact hK
  case body =>
    rintro l pre x W ⟨⟨hcc, hff⟩, hBB⟩ hlen
    exact absurd hlen (Nat.not_lt_zero _)
  case done =>
    rintro D ys W hD hys ⟨⟨hcc, hff⟩, hBB⟩ hK
    have hys0 : ys = [] := hys
    rw [hys0] at hcc
    have hcc0 : W.cell? ⟨w.heap.size, 0, none⟩ = some (.int .u64 0) := hcc
    have hcur : Cur W g 86 A n c a true := ⟨(hBB.block g hgw).trans ((hB3.block g (by omega)).trans HC.out.row), HC.out.le, HC.out.lim, HC.out.nc⟩
    have hOW : OnlyB g w W := by
      have h1 := hO0.out.trans ((OnlyB.of_below (g := g) ((Below.refl (w).heap.size (w)).alloc (Nat.le_refl _) (.cells #[.int .u64 0] 92))).trans (HO.out.trans (OnlyB.of_below hB3)))
      exact ⟨hBB.os.trans h1.os, hBB.tape.trans h1.tape, hBB.output.trans h1.output, Nat.le_trans h1.size hBB.size, fun i hi hn => (hBB.block i hi).trans (h1.block i hi hn)⟩
    have HCu := Aside0.mk hcur
    have HOW := Aside0.mk hOW
    clear hcur hOW hBB hys hcc
    gi_wp2
    refine ⟨by simp, .inl ⟨_, _, rfl, run_takeDeferred hK, ?_⟩⟩
    refine ⟨_, results_tmp rfl _ _ _, ?_, rfl, ?_⟩
    · exact HOW.out.put (by omega) hK rfl rfl _
    · exact HCu.out.put hgw (by omega) hK rfl rfl _
  case stop =>
    rintro D ca pre W _ _ hx _
    exact hx.elim

/-- What a reader gets. -/
def getOk (n a : Nat) (sp : Bool) (m : Int) (xs : List UInt8) : Bool := decide (sp = false ∧ 1 ≤ m ∧ m ≤ 8 ∧ a + m.toNat ≤ n ∧ leN ((xs.drop a).take m.toNat) ≤ 9223372036854775807)
def getV (n a : Nat) (sp : Bool) (m : Int) (xs : List UInt8) : Int := if getOk n a sp m xs = true then (leN ((xs.drop a).take m.toNat) : Int) else 0
def getA (n a : Nat) (sp : Bool) (m : Int) (xs : List UInt8) : Nat := if getOk n a sp m xs = true then a + m.toNat else a
theorem get_any (g : Nat) (A : Option Addr) (n c a : Nat) (sp : Bool) (xs : List UInt8) (m : Int) (w : World) (h : Cur w g 86 A n c a sp) (hb : Bs w A n c xs) (hne : ∀ ad, A = some ad → 0 < n → ad.block ≠ g) :
    Calls Try.prog 55 #[.pointer (some ⟨g, 0, none⟩), .int .i64 m] w fun e w' => e = .returned (.int .i64 (getV n a sp m xs)) ∧ OnlyB g w w' ∧ Cur w' g 86 A n c (getA n a sp m xs) (!getOk n a sp m xs) := by
  by_cases h1 : m < 1
  · have hk : getOk n a sp m xs = false := decide_eq_false (by omega)
    refine (get_lo g A n c a sp m w h h1).mono ?_
    rintro e w' ⟨ho, rfl, hc⟩
    unfold getV getA
    rw [hk]
    exact ⟨rfl, ho, hc⟩
  by_cases h8 : 8 < m
  · have hk : getOk n a sp m xs = false := decide_eq_false (by omega)
    refine (get_hi g A n c a sp m w h h8).mono ?_
    rintro e w' ⟨ho, rfl, hc⟩
    unfold getV getA
    rw [hk]
    exact ⟨rfl, ho, hc⟩
  obtain ⟨k, rfl⟩ := Int.eq_ofNat_of_zero_le (show 0 ≤ m by omega)
  by_cases hr : sp = false ∧ a + k ≤ n
  · obtain ⟨rfl, hr⟩ := hr
    refine (get_ok 0 g A n c a xs k w h hb hne (by omega) (by omega) hr).mono ?_
    rintro e w' ⟨ho, ⟨hv, rfl, hc⟩ | ⟨hv, rfl, hc⟩⟩
    · have hk : getOk n a false k xs = true := decide_eq_true ⟨rfl, by omega, by omega, hr, hv⟩
      unfold getV getA
      rw [hk]
      exact ⟨rfl, ho, hc⟩
    · have hk : getOk n a false k xs = false := decide_eq_false (fun q => absurd q.2.2.2.2 (Nat.not_le.2 hv))
      unfold getV getA
      rw [hk]
      exact ⟨rfl, ho, hc⟩
  · have hk : getOk n a sp k xs = false := decide_eq_false (fun q => hr ⟨q.1, q.2.2.2.1⟩)
    have hno : sp = true ∨ (n : Int) - a < (k : Int) := by
      have hle := h.le
      cases sp with
      | true => exact .inl rfl
      | false => exact .inr (by have : ¬ a + k ≤ n := fun q => hr ⟨rfl, q⟩; omega)
    refine (get_no g A n c a sp k w h (by omega) (by omega) hno).mono ?_
    rintro e w' ⟨ho, rfl, hc⟩
    unfold getV getA
    rw [hk]
    exact ⟨rfl, ho, hc⟩
end Go.Proofs.Ytenibcbodjkglaa
