/- The walk of regaugeref03's Put. -/
import Derived.Test.YtfhajobcfdmllaaH2
set_option linter.unusedVariables false
set_option linter.unusedSimpArgs false
namespace Go.Proofs.Ytfhajobcfdmllaa
open Go.RowKit

theorem div_pow_succ (n : Int) (j : Nat) : n / 256 ^ j / 256 = n / 256 ^ (j + 1) := by
  rw [Int.pow_succ, Int.ediv_ediv_of_nonneg (Int.pow_nonneg (by decide))]
theorem div_pow_bound {n : Int} (h0 : 0 ≤ n) (h1 : n ≤ 9223372036854775807) (j : Nat) : 0 ≤ n / 256 ^ j ∧ n / 256 ^ j ≤ 9223372036854775807 :=
  ⟨Int.ediv_nonneg h0 (Int.pow_nonneg (by decide)), Int.le_trans (Int.ediv_le_self _ h0) h1⟩
set_option maxHeartbeats 2000000 in
set_option maxRecDepth 100000 in
theorem rput_any (A : Option Addr) (c : Nat) (s : WS) (n width : Int) (w : World) (hn : -9223372036854775808 ≤ n ∧ n ≤ 9223372036854775807) (ha : s.at_ ≤ s.xs.length) (hb : Bs w A s.xs.length c s.xs) :
    Calls Try.prog 18 #[.agg #[.slice A s.xs.length c, .int .i64 (s.at_ : Int), .bool s.sp], .int .i64 n, .int .i64 width] w fun e w' => Below w.heap.size w w' ∧
      ∃ A' c', e = .returned (.agg #[.slice A' (putS s n width).xs.length c', .int .i64 ((putS s n width).at_ : Int), .bool (putS s n width).sp]) ∧ Bs w' A' (putS s n width).xs.length c' (putS s n width).xs ∧ (A' = A ∨ ∀ ad, A' = some ad → 0 < (putS s n width).xs.length → w.heap.size ≤ ad.block) := by
  cases hf : fitsB n width with
  | false =>
    have hS : putS s n width = ⟨s.at_, true, s.xs⟩ := by unfold putS; rw [if_neg (by simp [hf])]
    rw [hS]
    obtain ⟨a, sp, xs⟩ := s
    dsimp only at ha hb ⊢
    obtain ⟨n', hn'⟩ : ∃ n', xs.length = n' := ⟨_, rfl⟩
    rw [hn'] at ha hb ⊢
    have HB := Aside0.mk hb
    clear hb
    go_enter Try.func18, Try.ntmps18
    go_wp2_with fail
    refine (rfits_any n width _ hn).mono ?_
    rintro e w3 ⟨rfl, rfl⟩
    rw [hf]
    go_wp2
    have hB2 := ((Below.refl w.heap.size w).alloc (Nat.le_refl _) (.cells #[.slice A n' c, .int .i64 (a : Int), .bool true] 30)).alloc (by simp) (.cells #[.slice A n' c, .int .i64 (a : Int), .bool true] 30)
    have hL := heap_alloc_new (w.alloc (.cells #[.slice A n' c, .int .i64 (a : Int), .bool true] 30)) (.cells #[.slice A n' c, .int .i64 (a : Int), .bool true] 30)
    rw [World.size_alloc] at hL
    replace hL := st_load hL
    exact bodyPost_ret (v := .agg #[.slice A n' c, .int .i64 (a : Int), .bool true]) (by simp [results, Try.results18, asAddr, hL]) rfl ⟨hB2, A, c, rfl, HB.out.below hB2, .inl rfl⟩
  | true =>
    obtain ⟨k1, k2, k3, k4⟩ := of_decide_eq_true hf
    obtain ⟨m, rfl⟩ := Int.eq_ofNat_of_zero_le (show 0 ≤ width by omega)
    have hS : putS s n m = bytesS s (le8 n m) := by
      unfold putS bytesS
      rw [le8_length, Int.toNat_natCast]
      by_cases h : s.sp = false ∧ s.at_ + m ≤ s.xs.length
      · rw [if_pos ⟨hf, h⟩, if_pos (show roomB s.xs.length s.at_ s.sp (m : Int) = true from decide_eq_true ⟨h.1, by omega, by omega⟩)]
      · rw [if_neg (fun k => h k.2), if_neg (fun k => h (by obtain ⟨x1, x2, x3⟩ := of_decide_eq_true k; exact ⟨x1, by omega⟩))]
    rw [hS]
    obtain ⟨s', hs'⟩ : ∃ s', bytesS s (le8 n m) = s' := ⟨_, rfl⟩
    rw [hs']
    replace hs' := Aside0.mk hs'
    have HB := Aside0.mk hb
    have HS := Aside0.mk ha
    clear hb hS ha
    obtain ⟨W2, hW2⟩ : ∃ W2, (w.alloc (.cells #[.slice A s.xs.length c, .int .i64 (s.at_ : Int), .bool s.sp] 30)).alloc (.cells #[.slice none 0 0, .int .i64 0, .bool false] 30) = W2 := ⟨_, rfl⟩
    have hs2 : W2.heap.size = w.heap.size + 2 := by rw [← hW2]; simp
    have hB2 : Below w.heap.size w W2 := by rw [← hW2]; exact ((Below.refl _ _).alloc (Nat.le_refl _) _).alloc (by simp) _
    have p0 : W2.heap[w.heap.size]? = some (.cells #[.slice A s.xs.length c, .int .i64 (s.at_ : Int), .bool s.sp] 30) := by rw [← hW2]; exact (Below.heap_alloc _ _ _ (by simp)).trans (heap_alloc_new _ _)
    have p1 : W2.heap[w.heap.size + 1]? = some (.cells #[.slice none 0 0, .int .i64 0, .bool false] 30) := by
      rw [← hW2]
      have := heap_alloc_new (w.alloc (.cells #[.slice A s.xs.length c, .int .i64 (s.at_ : Int), .bool s.sp] 30)) (.cells #[.slice none 0 0, .int .i64 0, .bool false] 30)
      rwa [World.size_alloc] at this
    have HP := Aside0.mk (And.intro hs2 (And.intro hB2 (And.intro p0 p1)))
    clear hs2 hB2 p0 p1
    have hm8 : m ≤ 8 := by omega
    go_enter Try.func18, Try.ntmps18
    go_wp2_with fail
    refine (rfits_any n m _ hn).mono ?_
    rintro e w3 ⟨rfl, rfl⟩
    rw [hf]
    clear hW2
    go_wp2_with fail
    go_loopg [1, 7, 8] m (fun k v1 v7 v8 wr => ∃ j : Nat, Aside (k + j = m) ∧ v1 = .int .i64 (n / 256 ^ j) ∧ v8 = .int .i64 (j : Int) ∧ ∃ A7 c7, v7 = .slice A7 j c7 ∧ Aside0 (Ow wr W2.heap.size A7 j c7 (le8 n j)) ∧ Aside0 (Below W2.heap.size W2 wr))
    case atStart => exact ⟨0, rfl, by simp, rfl, none, 0, rfl, ⟨Ow.nil _ _⟩, ⟨Below.refl _ _⟩⟩
    case round =>
      obtain ⟨j, hk, rfl, rfl, A7, c7, rfl, hO, hB⟩ := hrel
      have hjb : j ≤ m := by have := hk.out; omega
      by_cases hlt : j < m
      · have hjn : (j : Int) < (m : Int) := by omega
        obtain ⟨q0, q1⟩ := div_pow_bound (n := n) k3 hn.2 j
        obtain ⟨q, hq⟩ : ∃ q, n / 256 ^ j = q := ⟨_, rfl⟩
        rw [hq] at q0 q1 ⊢
        obtain ⟨y, hy⟩ : ∃ y, UInt8.ofNat (q % 256).toNat = y := ⟨_, rfl⟩
        have hyv : q % 256 = (y.toNat : Int) := by rw [← hy, UInt8.toNat_ofNat']; omega
        have hz : le8 n j ++ [y] = le8 n (j + 1) := by rw [← hy, ← hq]; rfl
        have hq' : n / 256 ^ (j + 1) = q / 256 := by rw [← div_pow_succ, hq]
        have HL := Aside0.mk (Bs.lit wr wr.heap.size rfl #[.int .u8 (q % 256)] 5 (0, 0) 1 1 [y] (by rw [hyv]; rfl) rfl (Nat.le_refl _) (by omega) (by omega))
        have HZ := Aside0.mk (And.intro hz hq')
        clear hy hyv hz hq' hq
        go_wp2_with (at_builtin; (refine wpl_a8 (w0 := W2) W2.heap.size rfl _ _ rfl _ j c7 (le8 n j) _ 1 1 [y] (j + 1) (le8 n (j + 1)) rfl rfl (hO.out.alloc _) HL.out (below_alloc hB.out hB.out.size _) (by simp; exact Nat.le_succ_of_le hB.out.size) rfl (by omega) HZ.out.1 ?_); intro A8 c8 w8 hO8 hB8)
        go_roundg (m - (j + 1))
        case measure => have := hk.out; omega
        case rel => exact ⟨j + 1, by have := hk.out; exact (show m - (j + 1) + (j + 1) = m by omega), by rw [HZ.out.2], by go_num, A8, c8, rfl, hO8, hB8⟩
      · obtain rfl : j = m := by omega
        have p0 := (hB.out.block w.heap.size (by have := HP.out.1; omega)).trans HP.out.2.2.1
        have p1 := (hB.out.block (w.heap.size + 1) (by have := HP.out.1; omega)).trans HP.out.2.2.2
        obtain ⟨c0, c1, c2, t0⟩ := row3_cells p0
        have hBw := below_then HP.out.2.1 (by have := HP.out.1; omega) hB.out
        have HW := Aside0.mk (And.intro hBw (And.intro p1 (And.intro hB.out.size HP.out.1)))
        clear p0 p1 hBw
        go_wp2_with fail
        refine (rbs_any A c s A7 j c7 (le8 n j) wr HS.out (HB.out.below HW.out.1) hO.out.bs).mono ?_
        rintro e w9 ⟨hB9, A', c', rfl, hb9, hA9⟩
        rw [hs'.out] at hb9 hA9 ⊢
        have p9 := (hB9.block (w.heap.size + 1) (by have := HW.out.2.2; omega)).trans HW.out.2.1
        obtain ⟨d0, d1, d2, t1⟩ := row3_cells p9
        have hL := st_load (row3_set (.slice A' s'.xs.length c') (.int .i64 (s'.at_ : Int)) (.bool s'.sp) p9)
        have hBf := below_set (j := 2) (.bool s'.sp) (below_set (j := 1) (.int .i64 (s'.at_ : Int)) (below_set (j := 0) (.slice A' s'.xs.length c') (below_then HW.out.1 (by have := HW.out.2.2; omega) hB9) (Nat.le_succ w.heap.size)) (Nat.le_succ w.heap.size)) (Nat.le_succ w.heap.size)
        have HF := Aside0.mk (And.intro hBf hb9)
        have HA := Aside0.mk hA9
        clear hBf hb9 p9 hB9 hA9
        go_wp2
        refine bodyPost_ret (v := .agg #[.slice A' s'.xs.length c', .int .i64 (s'.at_ : Int), .bool s'.sp]) (by simp [results, Try.results18, asAddr, hL]) rfl ⟨HF.out.1, A', c', rfl, ?_, ?_⟩
        · have hlt := HB.out.lt
          have hne : ∀ ad, A' = some ad → 0 < s'.xs.length → ad.block ≠ w.heap.size + 1 := fun ad e h0 => by
            rcases HA.out with rfl | h
            · have : 0 < s.xs.length := by
                have h1 : s'.xs.length = s.xs.length := by
                  rw [← hs'.out]
                  unfold bytesS
                  split
                  · rename_i hr
                    obtain ⟨_, _, r3⟩ := of_decide_eq_true hr
                    rw [putL_length]
                    have := HS.out
                    omega
                  · rfl
                omega
              have := hlt ad e this
              omega
            · have := h ad e h0
              have := HW.out.2.2
              omega
          exact (((HF.out.2.only ((OnlyB.refl (w.heap.size + 1) w9).set 0 (.slice A' s'.xs.length c')) hne).only ((OnlyB.refl (w.heap.size + 1) _).set 1 (.int .i64 (s'.at_ : Int))) hne).only ((OnlyB.refl (w.heap.size + 1) _).set 2 (.bool s'.sp)) hne)
        · rcases HA.out with rfl | h
          · exact .inl rfl
          · exact .inr fun ad e h0 => by have := h ad e h0; have := HW.out.2.2; omega
end Go.Proofs.Ytfhajobcfdmllaa
