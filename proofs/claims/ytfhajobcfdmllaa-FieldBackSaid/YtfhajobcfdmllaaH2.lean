/- The walks of regaugeref03's Writer and Bytes. -/
import Derived.Test.YtfhajobcfdmllaaH1
set_option linter.unusedVariables false
set_option linter.unusedSimpArgs false
namespace Go.Proofs.Ytfhajobcfdmllaa
open Go.RowKit

def WrW (w : World) (m : Nat) : World := (w.alloc (.cells #[.slice (some ⟨w.heap.size + 1, 0, none⟩) m m, .int .i64 0, .bool false] 30)).alloc (.cells (madeCells #[.int .u8 0] m) 5)
theorem WrW_load (w : World) (m : Nat) : (loadVar 30 ⟨w.heap.size, 0, none⟩).run Try.prog (WrW w m) = .ok (.agg #[.slice (some ⟨w.heap.size + 1, 0, none⟩) m m, .int .i64 0, .bool false]) (WrW w m) :=
  st_load ((Below.heap_alloc _ _ _ (by simp)).trans (heap_alloc_new _ _))
theorem WrW_post (w : World) (m : Nat) (hm : m ≤ 140737488355328) : ∃ g2, Ending.returned (.agg #[.slice (some ⟨w.heap.size + 1, 0, none⟩) m m, .int .i64 0, .bool false]) = .returned (.agg #[.slice (some ⟨g2, 0, none⟩) m m, .int .i64 0, .bool false]) ∧ w.heap.size ≤ g2 ∧ Ow (WrW w m) w.heap.size (some ⟨g2, 0, none⟩) m m (List.replicate m 0) ∧ Below w.heap.size w (WrW w m) :=
  ⟨w.heap.size + 1, rfl, Nat.le_succ _, Ow.made _ w.heap.size (w.heap.size + 1) (by simp) (by simp) m hm, ((Below.refl _ _).alloc (Nat.le_refl _) _).alloc (by simp) _⟩
set_option maxHeartbeats 1000000 in
set_option maxRecDepth 100000 in
theorem rwriter_any (size : Int) (w : World) :
    Calls Try.prog 16 #[.int .i64 size] w fun e w' => ∃ g2, e = .returned (.agg #[.slice (some ⟨g2, 0, none⟩) (nwN size) (nwN size), .int .i64 0, .bool false]) ∧ w.heap.size ≤ g2 ∧ Ow w' w.heap.size (some ⟨g2, 0, none⟩) (nwN size) (nwN size) (List.replicate (nwN size) 0) ∧ Below w.heap.size w w' := by
  by_cases h : 0 ≤ size ∧ size ≤ 65536
  · obtain ⟨m, rfl⟩ := Int.eq_ofNat_of_zero_le h.1
    have hn : nwN (m : Int) = m := by unfold nwN; rw [if_pos h]; omega
    rw [hn]
    have f1 : decide ((m : Int) < 0) = false := decide_eq_false (by omega)
    have f2 : decide (65536 < (m : Int)) = false := decide_eq_false (by omega)
    have hm : m ≤ 65536 := by omega
    have hmk := mk8 m (by omega)
    clear h hn
    go_enter Try.func16, Try.ntmps16
    go_wp2
    have hl := WrW_load w m
    unfold WrW at hl
    exact bodyPost_ret (by simp [results, Try.results16, asAddr, hl]) rfl (WrW_post w m (by omega))
  · have hn : nwN size = 0 := by unfold nwN; rw [if_neg h]
    rw [hn]
    have hmk : ∀ W : World, (Instr.makeSlice 28 (.int .i64 0) (.int .i64 0)).run Try.prog W = .ok (.slice (some ⟨W.heap.size, 0, none⟩) 0 0) (W.alloc (.cells (madeCells #[.int .u8 0] 0) 5)) := mk8 0 (by omega)
    have hl := WrW_load w 0
    unfold WrW at hl
    by_cases h1 : size < 0
    · have f1 := decide_eq_true h1
      clear h h1 hn
      go_enter Try.func16, Try.ntmps16
      go_wp2
      exact bodyPost_ret (by simp [results, Try.results16, asAddr, hl]) rfl (WrW_post w 0 (by omega))
    · have f1 := decide_eq_false h1
      have f2 : decide (65536 < size) = true := decide_eq_true (by omega)
      clear h h1 hn
      go_enter Try.func16, Try.ntmps16
      go_wp2
      exact bodyPost_ret (by simp [results, Try.results16, asAddr, hl]) rfl (WrW_post w 0 (by omega))

/-- The document's Bytes, of a writer. -/
def bytesS (s : WS) (ys : List UInt8) : WS := if roomB s.xs.length s.at_ s.sp ys.length = true then ⟨s.at_ + ys.length, false, putL s.xs ys s.at_⟩ else ⟨s.at_, true, s.xs⟩
set_option maxHeartbeats 1000000 in
set_option maxRecDepth 100000 in
theorem rbs_any (A : Option Addr) (c : Nat) (s : WS) (B : Option Addr) (m d : Nat) (ys : List UInt8) (w : World) (ha : s.at_ ≤ s.xs.length) (hb : Bs w A s.xs.length c s.xs) (hy : Bs w B m d ys) :
    Calls Try.prog 20 #[.agg #[.slice A s.xs.length c, .int .i64 (s.at_ : Int), .bool s.sp], .slice B m d] w fun e w' => Below w.heap.size w w' ∧
      ∃ A' c', e = .returned (.agg #[.slice A' (bytesS s ys).xs.length c', .int .i64 ((bytesS s ys).at_ : Int), .bool (bytesS s ys).sp]) ∧ Bs w' A' (bytesS s ys).xs.length c' (bytesS s ys).xs ∧ (A' = A ∨ ∀ ad, A' = some ad → 0 < (bytesS s ys).xs.length → w.heap.size ≤ ad.block) := by
  obtain ⟨a, sp, xs⟩ := s
  dsimp only at ha hb ⊢
  obtain ⟨n, hn⟩ : ∃ n, xs.length = n := ⟨_, rfl⟩
  have hm := hy.len
  have hnl := hb.lim
  have hnc := hb.le
  rw [hn] at ha hb hnl hnc ⊢
  have HBY := Aside0.mk (And.intro hb (And.intro hy hm))
  clear hb hy hm
  cases hr : roomB n a sp m with
  | false =>
    have hS : bytesS ⟨a, sp, xs⟩ ys = ⟨a, true, xs⟩ := by unfold bytesS; rw [if_neg]; dsimp only; rw [hn, HBY.out.2.2, hr]; simp
    rw [hS]
    dsimp only
    rw [hn]
    go_enter Try.func20, Try.ntmps20
    go_wp2_with fail
    refine (room_any A n c a sp m _ ha hnl hnc).mono ?_
    rintro e w3 ⟨rfl, hB3⟩
    rw [hr]
    have r0 := (hB3.block w.heap.size (by simp; omega)).trans ((Below.heap_alloc _ _ _ (by simp)).trans (heap_alloc_new w _))
    have r1 := heap_alloc_new (w.alloc (.cells #[.slice A n c, .int .i64 (a : Int), .bool sp] 30)) (.cells #[.slice none 0 0, .int .i64 0, .bool false] 30)
    rw [World.size_alloc] at r1
    replace r1 := (hB3.block (w.heap.size + 1) (by simp)).trans r1
    obtain ⟨c0, c1, c2, t0⟩ := row3_cells r0
    have r2 := (Below.heap_setCell w3 ⟨w.heap.size, 2, none⟩ (.bool true) (w.heap.size + 1) (by simp)).trans r1
    obtain ⟨d0, d1, d2, t1⟩ := row3_cells r1
    have hL := st_load (row3_set (.slice A n c) (.int .i64 (a : Int)) (.bool true) r2)
    have HB := Aside0.mk (below_then (((Below.refl w.heap.size w).alloc (Nat.le_refl _) _).alloc (by simp) _) (by simp; omega) hB3)
    clear hB3 r0 r1 r2
    go_wp2
    have hBf := below_set (j := 2) (.bool true) (below_set (j := 1) (.int .i64 (a : Int)) (below_set (j := 0) (.slice A n c) (below_set (j := 2) (.bool true) HB.out (Nat.le_refl _)) (Nat.le_succ w.heap.size)) (Nat.le_succ w.heap.size)) (Nat.le_succ w.heap.size)
    refine bodyPost_ret (v := .agg #[.slice A n c, .int .i64 (a : Int), .bool true]) (by simp [results, Try.results20, asAddr, hL]) rfl ⟨hBf, A, c, rfl, HBY.out.1.below hBf, .inl rfl⟩
  | true =>
    obtain ⟨q1, q2, q3⟩ := of_decide_eq_true hr
    subst q1
    have hS : bytesS ⟨a, false, xs⟩ ys = ⟨a + m, false, putL xs ys a⟩ := by unfold bytesS; dsimp only; rw [hn, HBY.out.2.2, hr]; simp
    have hpl : (putL xs ys a).length = n := by rw [putL_length _ _ _ (by rw [HBY.out.2.2, hn]; omega)]; exact hn
    rw [hS]
    dsimp only
    rw [hpl]
    go_enter Try.func20, Try.ntmps20
    go_wp2_with fail
    refine (room_any A n c a false m _ ha hnl hnc).mono ?_
    rintro e w3 ⟨rfl, hB3⟩
    rw [hr]
    have r0 := (hB3.block w.heap.size (by simp; omega)).trans ((Below.heap_alloc _ _ _ (by simp)).trans (heap_alloc_new w _))
    have r1 := heap_alloc_new (w.alloc (.cells #[.slice A n c, .int .i64 (a : Int), .bool false] 30)) (.cells #[.slice none 0 0, .int .i64 0, .bool false] 30)
    rw [World.size_alloc] at r1
    replace r1 := (hB3.block (w.heap.size + 1) (by simp)).trans r1
    have hs3 : w.heap.size + 2 ≤ w3.heap.size := by have := hB3.size; simp at this; omega
    have HB := Aside0.mk (below_then (((Below.refl w.heap.size w).alloc (Nat.le_refl _) _).alloc (by simp) _) (by simp; omega) hB3)
    obtain ⟨c0, c1, c2, _⟩ := row3_cells ((Below.heap_alloc w3 (.cells #[] 5) _ (by omega)).trans r0)
    have HR := Aside0.mk (And.intro r0 r1)
    have HO3 := Aside0.mk (Ow.lit0 w3 w3.heap.size w3.heap.size rfl (Nat.le_refl _))
    have hba := HBY.out.1.below HB.out
    have HX := Aside0.mk (And.intro ((hba.take a ha).alloc (.cells #[] 5)) (And.intro (HBY.out.2.1.below HB.out) (hba.drop (a + m) (by omega))))
    have HB3 := Aside0.mk ((Below.refl w3.heap.size w3).alloc (Nat.le_refl _) (.cells #[] 5))
    have s1 : ∀ W : World, (Instr.slice 28 (.slice A n c) none (some (.int .i64 (a : Int))) none).run Try.prog W = .ok (.slice A a c) W := fun W => by
      rw [sl8_h W A n c .i64 (a : Int) (by omega) (by omega), Int.toNat_natCast]
    have s2 : ∀ W : World, (Instr.slice 28 (.slice A n c) (some (.int .i64 ((a : Int) + (m : Int)))) none none).run Try.prog W = .ok (.slice (cutA A c (a + m)) (n - (a + m)) (c - (a + m))) W := fun W => by
      rw [sl8_l W A n c .i64 ((a : Int) + (m : Int)) (by omega) (by omega), show ((a : Int) + (m : Int)).toNat = a + m by omega]
    clear hB3 r0 r1 hba
    have hml : m ≤ 140737488355328 := HBY.out.2.1.lim
    go_wp2_with (at_builtin; first
      | ((with_reducible refine wpl_a8 (w0 := w3) w3.heap.size rfl _ _ rfl _ 0 0 [] A a c (xs.take a) a (xs.take a) rfl rfl HO3.out HX.out.1 HB3.out (by simp) (by omega) (by omega) rfl ?_); intro A4 c4 w4 hO4 hB4; clear c0 c1 c2)
      | ((with_reducible refine wpl_a8 (w0 := w3) w3.heap.size rfl _ _ rfl _ a _ (xs.take a) B m d ys (a + m) (xs.take a ++ ys) rfl rfl hO4.out (HX.out.2.1.below hB4.out) hB4.out hB4.out.size rfl (by omega) rfl ?_); intro A5 c5 w5 hO5 hB5; (have r5 := (hB5.out.block w.heap.size (by omega)).trans HR.out.1); obtain ⟨c0, c1, c2, _⟩ := row3_cells r5; clear r5)
      | ((with_reducible refine wpl_a8 (w0 := w3) w3.heap.size rfl _ _ rfl _ (a + m) _ (xs.take a ++ ys) (cutA A c (a + m)) (n - (a + m)) (c - (a + m)) (xs.drop (a + m)) n (putL xs ys a) rfl rfl hO5.out (HX.out.2.2.below hB5.out) hB5.out hB5.out.size (by omega) (by omega) (by unfold putL; rw [HBY.out.2.2, List.append_assoc]) ?_); intro A6 c6 w6 hO6 hB6; clear c0 c1 c2; (have r6 := (hB6.out.block w.heap.size (by omega)).trans HR.out.1); (have p6 := (hB6.out.block (w.heap.size + 1) (by omega)).trans HR.out.2); obtain ⟨c0, c1, c2, t0⟩ := row3_cells r6; obtain ⟨d0, d1, d2, t1⟩ := row3_cells p6; (have HR6 := Aside0.mk (And.intro r6 p6)); clear r6 p6))
    have p8 : ((w6.setCell ⟨w.heap.size, 0, none⟩ (.slice A6 n c6)).setCell ⟨w.heap.size, 1, none⟩ (.int .i64 ((a : Int) + (m : Int)))).heap[w.heap.size + 1]? = some (.cells #[.slice none 0 0, .int .i64 0, .bool false] 30) := by
      rw [Below.heap_setCell _ _ _ _ (by simp), Below.heap_setCell _ _ _ _ (by simp)]
      exact HR6.out.2
    have hL := st_load (row3_set (.slice A6 n c6) (.int .i64 ((a : Int) + (m : Int))) (.bool false) p8)
    have hBf := below_set (j := 2) (.bool false) (below_set (j := 1) (.int .i64 ((a : Int) + (m : Int))) (below_set (j := 0) (.slice A6 n c6) (below_set (j := 1) (.int .i64 ((a : Int) + (m : Int))) (below_set (j := 0) (.slice A6 n c6) (below_then HB.out (by omega) hB6.out) (Nat.le_refl _)) (Nat.le_refl _)) (Nat.le_succ w.heap.size)) (Nat.le_succ w.heap.size)) (Nat.le_succ w.heap.size)
    refine bodyPost_ret (v := .agg #[.slice A6 n c6, .int .i64 ((a : Int) + (m : Int)), .bool false]) (by simp [results, Try.results20, asAddr, hL]) rfl ⟨hBf, A6, c6, by rw [Int.natCast_add], ?_, .inr fun ad e h0 => ?_⟩
    · exact (((((hO6.out.setc _ (by omega)).setc _ (by omega)).setc _ (by omega)).setc _ (by omega)).setc _ (by omega)).bs
    · obtain ⟨g, e1, e2, _⟩ := hO6.out.head h0
      rw [e1] at e
      injection e with e
      subst e
      exact (show w.heap.size ≤ g by omega)
end Go.Proofs.Ytfhajobcfdmllaa
