/- The walks of regaugeref03's small functions: room, Take, Skip, Writer. -/
import Derived.Test.YtfhajobcfdmllaaL03a
set_option linter.unusedVariables false
set_option linter.unusedSimpArgs false
namespace Go.Proofs.Ytfhajobcfdmllaa
open Go.RowKit

/-- The document's state, as a value. -/
def stV (A : Option Addr) (n c a : Nat) (sp : Bool) : Value := .agg #[.slice A n c, .int .i64 (a : Int), .bool sp]
def roomB (n a : Nat) (sp : Bool) (m : Int) : Bool := decide (sp = false ∧ 0 ≤ m ∧ m ≤ (n : Int) - (a : Int))
theorem Ow.keptb {w w1 : World} {base n c : Nat} {A : Option Addr} {xs : List UInt8} (h : Ow w base A n c xs) (hb : ∀ g, base ≤ g → g < w.heap.size → w1.heap[g]? = w.heap[g]?) : Ow w1 base A n c xs := by
  refine ⟨⟨h.row.1, ?_⟩, h.lim⟩
  rcases h.row.2 with hn | ⟨g, cap, cur, hv, hg, hh, rest⟩
  · exact .inl hn
  · exact .inr ⟨g, cap, cur, hv, hg, by rw [hb g hg (Array.getElem?_eq_some_iff.1 hh).1]; exact hh, rest⟩
theorem Ow.setc {w : World} {base n c g j : Nat} {A : Option Addr} {xs : List UInt8} (v : Value) (h : Ow w base A n c xs) (hg : g < base) : Ow (w.setCell ⟨g, j, none⟩ v) base A n c xs :=
  h.keptb fun k hk _ => Below.heap_setCell _ _ _ _ (show k ≠ g by omega)
theorem below_set {B g j : Nat} {w W : World} (v : Value) (h : Below B w W) (hg : B ≤ g) : Below B w (W.setCell ⟨g, j, none⟩ v) := h.setCell (p := ⟨g, j, none⟩) hg v
/-- Three cells of a row, stored one by one. -/
theorem row3_set {W : World} {g : Nat} {T : TypeId} {x y z : Value} (a b c : Value) (h : W.heap[g]? = some (.cells #[x, y, z] T)) :
    (((W.setCell ⟨g, 0, none⟩ a).setCell ⟨g, 1, none⟩ b).setCell ⟨g, 2, none⟩ c).heap[g]? = some (.cells #[a, b, c] T) := by
  have h1 := heap_setCell_same W g 0 _ _ a h
  have h2 := heap_setCell_same _ g 1 _ _ b h1
  have h3 := heap_setCell_same _ g 2 _ _ c h2
  exact h3
theorem row3_cells {W : World} {g : Nat} {T : TypeId} {x y z : Value} (h : W.heap[g]? = some (.cells #[x, y, z] T)) :
    W.cell? ⟨g, 0, none⟩ = some x ∧ W.cell? ⟨g, 1, none⟩ = some y ∧ W.cell? ⟨g, 2, none⟩ = some z ∧ ∀ j, W.frozen? ⟨g, j, none⟩ = false :=
  ⟨by rw [cell_of_row _ _ _ _ _ _ h]; rfl, by rw [cell_of_row _ _ _ _ _ _ h]; rfl, by rw [cell_of_row _ _ _ _ _ _ h]; rfl, fun j => by simp [World.frozen?, h]⟩
theorem st_load {W : World} {g : Nat} {a b c : Value} (h : W.heap[g]? = some (.cells #[a, b, c] 30)) : (loadVar 30 ⟨g, 0, none⟩).run Try.prog W = .ok (.agg #[a, b, c]) W :=
  run_loadVar_row W g 30 30 _ (0, 0) _ h Try.underlying30 rfl (by kernel_rfl)
theorem Cur.load {W : World} {g : Nat} {A : Option Addr} {n c a : Nat} {sp : Bool} (h : Cur W g 30 A n c a sp) : (loadVar 30 ⟨g, 0, none⟩).run Try.prog W = .ok (.agg #[.slice A n c, .int .i64 (a : Int), .bool sp]) W :=
  run_loadVar_row W g 30 30 _ (0, 0) _ h.row Try.underlying30 rfl (by kernel_rfl)

set_option maxHeartbeats 1000000 in
set_option maxRecDepth 100000 in
theorem room_any (A : Option Addr) (n c a : Nat) (sp : Bool) (m : Int) (w : World) (ha : a ≤ n) (hn : n ≤ 140737488355328) (hc : n ≤ c) :
    Calls Try.prog 46 #[.agg #[.slice A n c, .int .i64 (a : Int), .bool sp], .int .i64 m] w fun e w' => e = .returned (.bool (roomB n a sp m)) ∧ Below w.heap.size w w' := by
  have h : Cur (w.alloc (.cells #[.slice A n c, .int .i64 (a : Int), .bool sp] 30)) w.heap.size 30 A n c a sp := ⟨heap_alloc_new _ _, ha, hn, hc⟩
  obtain ⟨c0, c1, c2⟩ := h.cells
  have hB := (Below.refl w.heap.size w).alloc (Nat.le_refl _) (.cells #[.slice A n c, .int .i64 (a : Int), .bool sp] 30)
  have HB := Aside0.mk hB
  clear hB h
  cases sp with
  | true =>
    go_enter Try.func46, Try.ntmps46
    go_wp2
    go_ret
    exact ⟨ret_bool (by simp [roomB]), HB.out⟩
  | false =>
    by_cases h1 : 0 ≤ m
    · have f1 := decide_eq_true h1
      by_cases h2 : m ≤ (n : Int) - (a : Int)
      · have f2 := decide_eq_true h2
        have hr : roomB n a false m = true := decide_eq_true ⟨rfl, h1, h2⟩
        go_enter Try.func46, Try.ntmps46
        go_wp2
        go_ret
        exact ⟨by first | done | rfl | (rw [hr]; first | done | rfl), HB.out⟩
      · have f2 := decide_eq_false h2
        have hr : roomB n a false m = false := decide_eq_false (fun k => h2 k.2.2)
        go_enter Try.func46, Try.ntmps46
        go_wp2
        go_ret
        exact ⟨by first | done | rfl | (rw [hr]; first | done | rfl), HB.out⟩
    · have f1 := decide_eq_false h1
      have hr : roomB n a false m = false := decide_eq_false (fun k => h1 k.2.1)
      go_enter Try.func46, Try.ntmps46
      go_wp2
      go_ret
      exact ⟨by first | done | rfl | (rw [hr]; first | done | rfl), HB.out⟩

set_option maxHeartbeats 1000000 in
set_option maxRecDepth 100000 in
theorem take_any (A : Option Addr) (n c a : Nat) (sp : Bool) (xs : List UInt8) (m : Int) (w : World) (ha : a ≤ n) (hb : Bs w A n c xs) :
    Calls Try.prog 47 #[.agg #[.slice A n c, .int .i64 (a : Int), .bool sp], .int .i64 m] w fun e w' => Below w.heap.size w w' ∧
      ((roomB n a sp m = false ∧ e = .returned (.tuple #[.agg #[.slice A n c, .int .i64 (a : Int), .bool true], .slice none 0 0])) ∨
       (roomB n a sp m = true ∧ ∃ A' c', e = .returned (.tuple #[.agg #[.slice A n c, .int .i64 ((a + m.toNat : Nat) : Int), .bool sp], .slice A' m.toNat c']) ∧ Ow w' w.heap.size A' m.toNat c' ((xs.drop a).take m.toNat))) := by
  have hn := hb.lim
  have hc := hb.le
  have h : Cur (w.alloc (.cells #[.slice A n c, .int .i64 (a : Int), .bool sp] 30)) w.heap.size 30 A n c a sp := ⟨heap_alloc_new _ _, ha, hn, hc⟩
  obtain ⟨W2, hW2⟩ : ∃ W2, (w.alloc (.cells #[.slice A n c, .int .i64 (a : Int), .bool sp] 30)).alloc (.cells #[.slice none 0 0, .int .i64 0, .bool false] 30) = W2 := ⟨_, rfl⟩
  have h0 : Cur W2 w.heap.size 30 A n c a sp := by rw [← hW2]; exact h.below ((Below.refl _ _).alloc (Nat.le_refl _) _)
  have h1 : W2.heap[w.heap.size + 1]? = some (.cells #[.slice none 0 0, .int .i64 0, .bool false] 30) := by
    rw [← hW2]
    have := heap_alloc_new (w.alloc (.cells #[.slice A n c, .int .i64 (a : Int), .bool sp] 30)) (.cells #[.slice none 0 0, .int .i64 0, .bool false] 30)
    simpa using this
  have hB : Below w.heap.size w W2 := by rw [← hW2]; exact ((Below.refl w.heap.size w).alloc (Nat.le_refl _) _).alloc (by simp) _
  have hs2 : W2.heap.size = w.heap.size + 2 := by rw [← hW2]; simp
  have hb2 : Bs W2 A n c xs := by rw [← hW2]; exact (hb.alloc _).alloc _
  have HW2 := Aside0.mk hW2
  have H := Aside0.mk (And.intro h0 (And.intro h1 (And.intro hB (And.intro hs2 hb2))))
  clear hW2 h0 h1 hB hs2 hb2 h hb
  cases hr : roomB n a sp m with
  | false =>
    go_enter Try.func47, Try.ntmps47
    go_wp2_with fail
    refine (room_any A n c a sp m _ ha hn hc).mono ?_
    rintro e w3 ⟨rfl, hB3⟩
    rw [hr]
    rw [HW2.out] at hB3
    have h3 := H.out.1.below (hB3.mono (Nat.le_of_eq rfl))
    have r1 := (hB3.block _ (by have := H.out.2.2.2.1; omega)).trans H.out.2.1
    obtain ⟨c0, c1, c2⟩ := h3.cells
    have t0 := h3.thaw
    have hX := h3.sp.load
    have r2 := (Below.heap_setCell w3 ⟨w.heap.size, 2, none⟩ (.bool true) (w.heap.size + 1) (by simp)).trans r1
    obtain ⟨d0, d1, d2, t1⟩ := row3_cells r1
    have hL := st_load (row3_set (.slice A n c) (.int .i64 (a : Int)) (.bool true) r2)
    have H3 := Aside0.mk (And.intro hB3 (And.intro r1 r2))
    clear hB3 r1 r2 h3
    go_wp2
    refine bodyPost_ret (v := .tuple #[.agg #[.slice A n c, .int .i64 (a : Int), .bool true], .slice none 0 0]) (by simp [results, Try.results47, asAddr, hL]) rfl ⟨?_, .inl ⟨trivial, rfl⟩⟩
    exact below_set _ (below_set _ (below_set _ (below_set _ (below_then H.out.2.2.1 (by have := H.out.2.2.2.1; omega) H3.out.1) (Nat.le_refl _)) (Nat.le_succ _)) (Nat.le_succ _)) (Nat.le_succ _)
  | true =>
    obtain ⟨q1, q2, q3⟩ := of_decide_eq_true hr
    obtain ⟨k, rfl⟩ := Int.eq_ofNat_of_zero_le q2
    subst q1
    go_enter Try.func47, Try.ntmps47
    go_wp2_with fail
    refine (room_any A n c a false k _ ha hn hc).mono ?_
    rintro e w3 ⟨rfl, hB3⟩
    rw [hr]
    rw [HW2.out] at hB3
    have h3 := H.out.1.below (hB3.mono (Nat.le_of_eq rfl))
    have r1 := (hB3.block _ (by have := H.out.2.2.2.1; omega)).trans H.out.2.1
    obtain ⟨c0, c1, c2⟩ := (h3.below ((Below.refl _ _).alloc (Nat.le_refl _) (.cells #[] 5))).cells
    have hb3 := H.out.2.2.2.2.below hB3
    have hs3 : w.heap.size + 2 ≤ w3.heap.size := by have := hB3.size; have := H.out.2.2.2.1; omega
    have s1 : ∀ W : World, (Instr.slice 28 (.slice A n c) (some (.int .i64 (a : Int))) (some (.int .i64 ((a : Int) + (k : Int)))) none).run Try.prog W = .ok (.slice (cutA A c a) k (c - a)) W := fun W => by
      rw [sl8_lh W A n c .i64 .i64 (a : Int) ((a : Int) + (k : Int)) (by omega) (by omega) (by omega), show ((a : Int) + (k : Int)).toNat - (a : Int).toNat = k by omega, Int.toNat_natCast]
    have HO := Aside0.mk (Ow.lit0 w3 w3.heap.size w3.heap.size rfl (Nat.le_refl _))
    have HR := Aside0.mk (((hb3.drop a ha).take k (by omega)).alloc (.cells #[] 5))
    have HB := Aside0.mk ((Below.refl w3.heap.size w3).alloc (Nat.le_refl _) (.cells #[] 5))
    have H3 := Aside0.mk (And.intro h3 (And.intro hB3 r1))
    clear h3 hB3 hb3 r1
    go_wp2_with (at_builtin; (refine wpl_a8 (w0 := w3) w3.heap.size rfl _ _ rfl _ 0 0 [] (cutA A c a) k (c - a) ((xs.drop a).take k) k ((xs.drop a).take k) rfl rfl HO.out HR.out HB.out (by simp) (by omega) (by omega) rfl ?_); intro A2 cc w4 hO4 hB4; (have h4 := H3.out.1.below hB4.out); (have r4 := (hB4.out.block _ (by omega)).trans H3.out.2.2); clear c0 c1 c2; obtain ⟨c0, c1, c2⟩ := h4.cells; (have t0 := h4.thaw); (have hX := (h4.to (a' := a + k) (by omega)).load); rw [Int.natCast_add] at hX; (have r5 := (Below.heap_setCell w4 ⟨w.heap.size, 1, none⟩ (.int .i64 ((a : Int) + (k : Int))) (w.heap.size + 1) (by simp)).trans r4); obtain ⟨d0, d1, d2, t1⟩ := row3_cells r4; (have hL := st_load (row3_set (.slice A n c) (.int .i64 ((a : Int) + (k : Int))) (.bool false) r5)); (have H4 := Aside0.mk (And.intro h4 r4)); clear h4 r4 r5)
    refine bodyPost_ret (v := .tuple #[.agg #[.slice A n c, .int .i64 ((a : Int) + (k : Int)), .bool false], .slice A2 k cc]) (by simp [results, Try.results47, asAddr, hL]) rfl ⟨?_, .inr ⟨trivial, A2, cc, by simp, ?_⟩⟩
    · exact below_set _ (below_set _ (below_set _ (below_set _ (below_then (below_then H.out.2.2.1 (by have := H.out.2.2.2.1; omega) H3.out.2.1) (by omega) hB4.out) (Nat.le_refl _)) (Nat.le_succ _)) (Nat.le_succ _)) (Nat.le_succ _)
    · rw [Int.toNat_natCast]
      exact ((((hO4.out.setc _ (by omega)).setc _ (by omega)).setc _ (by omega)).setc _ (by omega)).mono (by omega)
/-- Where the place is behind so many bytes. -/
def skA (n a : Nat) (sp : Bool) (m : Int) : Nat := if roomB n a sp m = true then a + m.toNat else a
theorem take_st (A : Option Addr) (n c a : Nat) (sp : Bool) (xs : List UInt8) (m : Int) (w : World) (ha : a ≤ n) (hb : Bs w A n c xs) :
    Calls Try.prog 47 #[.agg #[.slice A n c, .int .i64 (a : Int), .bool sp], .int .i64 m] w fun e w' => Below w.heap.size w w' ∧
      ∃ k : Int, ∃ b A' m' c', e = .returned (.tuple #[.agg #[.slice A n c, .int .i64 k, .bool b], .slice A' m' c']) ∧ k = (skA n a sp m : Int) ∧ b = !roomB n a sp m := by
  refine (take_any A n c a sp xs m w ha hb).mono ?_
  rintro e w' ⟨hB, ⟨hr, rfl⟩ | ⟨hr, A', c', rfl, _⟩⟩
  · exact ⟨hB, a, true, none, 0, 0, rfl, by simp [skA, hr], by rw [hr]; rfl⟩
  · obtain rfl : sp = false := (of_decide_eq_true hr).1
    exact ⟨hB, _, false, A', _, c', rfl, by simp [skA, hr], by rw [hr]; rfl⟩
theorem skA_le {n a : Nat} {sp : Bool} {m : Int} (ha : a ≤ n) : skA n a sp m ≤ n := by
  unfold skA
  split
  · rename_i h
    have := of_decide_eq_true h
    omega
  · exact ha

set_option maxHeartbeats 1000000 in
set_option maxRecDepth 100000 in
theorem rskip_any (A : Option Addr) (n c a : Nat) (sp : Bool) (xs : List UInt8) (m : Int) (w : World) (ha : a ≤ n) (hb : Bs w A n c xs) :
    Calls Try.prog 22 #[.agg #[.slice A n c, .int .i64 (a : Int), .bool sp], .int .i64 m] w fun e w' => Below w.heap.size w w' ∧
      e = .returned (.agg #[.slice A n c, .int .i64 (skA n a sp m : Int), .bool (!roomB n a sp m)]) := by
  have HB := Aside0.mk hb
  clear hb
  go_enter Try.func22, Try.ntmps22
  go_wp2_with fail
  refine (take_st A n c a sp xs m _ ha ((HB.out.alloc _).alloc _)).mono ?_
  rintro e w3 ⟨hB3, k, b, A', m', c', rfl, hk, hbb⟩
  have r2 := heap_alloc_new (w.alloc (.cells #[.slice A n c, .int .i64 (a : Int), .bool sp] 30)) (.cells #[.slice none 0 0, .int .i64 0, .bool false] 30)
  rw [World.size_alloc] at r2
  have r3 := (hB3.block (w.heap.size + 1) (by simp)).trans r2
  have hs3 : w.heap.size + 2 ≤ w3.heap.size := by have := hB3.size; simp at this; omega
  have hne : w.heap.size + 1 ≠ w3.heap.size := by omega
  have hne' : ¬ w3.heap.size = w.heap.size + 1 := by omega
  obtain ⟨N3, hN3⟩ : ∃ N3, w3.heap.size = N3 := ⟨_, rfl⟩
  obtain ⟨W4, hW4⟩ : ∃ W4, w3.alloc (.cells #[.slice none 0 0, .int .i64 0, .bool false] 30) = W4 := ⟨_, rfl⟩
  have q4 : W4.heap[N3]? = some (.cells #[.slice none 0 0, .int .i64 0, .bool false] 30) := by rw [← hW4, ← hN3]; exact heap_alloc_new _ _
  have r4 : W4.heap[w.heap.size + 1]? = some (.cells #[.slice none 0 0, .int .i64 0, .bool false] 30) := by rw [← hW4]; exact (Below.heap_alloc _ _ _ (by omega)).trans r3
  obtain ⟨e0, e1, e2, te⟩ := row3_cells q4
  obtain ⟨W7, hW7⟩ : ∃ W7, ((W4.setCell ⟨N3, 0, none⟩ (.slice A n c)).setCell ⟨N3, 1, none⟩ (.int .i64 k)).setCell ⟨N3, 2, none⟩ (.bool b) = W7 := ⟨_, rfl⟩
  obtain ⟨g0, g1, g2, tg⟩ := row3_cells (hW7 ▸ row3_set (.slice A n c) (.int .i64 k) (.bool b) q4)
  have r7 : W7.heap[w.heap.size + 1]? = some (.cells #[.slice none 0 0, .int .i64 0, .bool false] 30) := by
    rw [← hW7, Below.heap_setCell _ _ _ _ (by simp; omega), Below.heap_setCell _ _ _ _ (by simp; omega), Below.heap_setCell _ _ _ _ (by simp; omega)]
    exact r4
  obtain ⟨d0, d1, d2, td⟩ := row3_cells r7
  have hl8 := st_load (row3_set (.slice A n c) (.int .i64 k) (.bool b) r7)
  have hB7 : Below w.heap.size w W7 := by
    rw [← hW7, ← hW4]
    exact below_set _ (below_set _ (below_set _ (below_alloc (below_then (((Below.refl _ _).alloc (Nat.le_refl _) _).alloc (by simp) _) (by simp; omega) hB3) (by omega) _) (by omega)) (by omega)) (by omega)
  have H := Aside0.mk (And.intro hB7 (And.intro hk hbb))
  clear hB3 r2 r3 hs3 hne hne' q4 r4 r7 hB7 hk hbb
  go_wp2
  refine bodyPost_ret (v := .agg #[.slice A n c, .int .i64 k, .bool b]) (by simp [results, Try.results22, asAddr, hl8]) rfl ⟨?_, by rw [H.out.2.1, H.out.2.2]⟩
  exact below_set _ (below_set _ (below_set _ H.out.1 (Nat.le_succ _)) (Nat.le_succ _)) (Nat.le_succ _)
end Go.Proofs.Ytfhajobcfdmllaa
