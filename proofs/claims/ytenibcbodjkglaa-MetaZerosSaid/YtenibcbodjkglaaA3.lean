/- The walks of slices.Clone, slices.Equal, bytes.Equal at bytes, and of crc's small functions. -/
import Derived.Test.YtenibcbodjkglaaA2
set_option linter.unusedVariables false
set_option linter.unusedSimpArgs false
namespace Go.Proofs.Ytenibcbodjkglaa
open Go.RowKit

set_option maxHeartbeats 1000000 in
theorem clone8_any (A : Option Addr) (n c : Nat) (xs : List UInt8) (w : World) (hb : Bs w A n c xs) :
    Calls Try.prog 47 #[.slice A n c] w fun e w' => ∃ A' c', e = .returned (.slice A' n c') ∧ Ow w' w.heap.size A' n c' xs ∧ Below w.heap.size w w' := by
  have hlim := hb.lim
  have hnil := fun W => Lib.run_eql_slice_nil (P := Try.prog) W 22 5 A n c 0 0 Try.underlying22
  go_enter Try.func47, Try.ntmps47
  rcases A with _ | ad
  · have h0 : n = 0 := by
      rcases Nat.eq_zero_or_pos n with h | h
      · exact h
      · obtain ⟨ad, h, _⟩ := hb.cells h
        cases h
    subst h0
    obtain rfl : xs = [] := List.eq_nil_of_length_eq_zero hb.len
    go_wp2_with fail
    all_goals (go_ret; exact ⟨none, 0, rfl, Ow.nil _ _, Below.refl _ _⟩)
  · have HO : Ow (w.alloc (.cells #[] 5)) w.heap.size (some ⟨w.heap.size, 0, none⟩) 0 0 [] :=
      ⟨by simpa [u8v] using World.ownsRow_lit (base := w.heap.size) (e := 5) (size := 1) w #[] 0 (Nat.le_refl _) (by simp [maxLen]) (by simp), by omega⟩
    have HO' := Aside0.mk HO
    clear HO
    go_wp2_with (at_builtin; (refine wpl_app8 (w0 := w) w.heap.size rfl _ _ rfl _ 0 0 [] (some ad) n c xs rfl rfl HO'.out (hb.alloc _) ((Below.refl _ _).alloc (Nat.le_refl _) _) (by simp) (by omega) ?_); intro A2 c2 w1 hO hB hg hat)
    go_ret
    simp only [Nat.zero_add, List.nil_append] at hO ⊢
    exact ⟨A2, c2, rfl, hO, hB⟩

set_option maxHeartbeats 1000000 in
theorem has_any (A : Option Addr) (n c : Nat) (at_ : Int) (w : World) (hl : n ≤ 140737488355328) :
    Calls Try.prog 48 #[.slice A n c, .int .i64 at_] w fun e w' => e = .returned (.bool (decide (0 ≤ at_ ∧ at_ ≤ (n : Int) - 4))) ∧ w = w' := by
  by_cases h : 0 ≤ at_
  · have h' : decide (0 ≤ at_) = true := decide_eq_true h
    go_enter Try.func48, Try.ntmps48
    go_wp2
    go_ret
    exact ⟨by simp [h], rfl⟩
  · have h' : decide (0 ≤ at_) = false := decide_eq_false h
    go_enter Try.func48, Try.ntmps48
    go_wp2
    go_ret
    exact ⟨by simp [h], rfl⟩

set_option maxHeartbeats 1000000 in
theorem of_any (A : Option Addr) (n c : Nat) (xs : List UInt8) (w : World) (hb : Bs w A n c xs) :
    Calls Try.prog 58 #[.slice A n c] w fun e w' => e = .returned (.int .u32 (updI 0 xs)) ∧ Below w.heap.size w w' := by
  go_enter Try.func58, Try.ntmps58
  go_wp2_with (go_at_call 57; refine (update_any 0 A n c xs _ hb).mono ?_; rintro e w1 ⟨rfl, hB⟩)
  go_ret
  exact ⟨rfl, hB⟩

set_option maxHeartbeats 1000000 in
theorem others_any (A : Option Addr) (n c : Nat) (xs : List UInt8) (at_ : Nat) (w : World) (hb : Bs w A n c xs) (h1 : at_ + 4 ≤ n) :
    Calls Try.prog 49 #[.slice A n c, .int .i64 (at_ : Int)] w fun e w' => e = .returned (.int .u32 (updI (updI 0 (xs.take at_)) (xs.drop (at_ + 4)))) ∧ Below w.heap.size w w' := by
  have hlim := hb.lim
  have hcc := hb.le
  have c1 : (at_ : Int) ≤ (c : Int) := by omega
  have c2 : (at_ : Int) + 4 ≤ (n : Int) := by omega
  have H1 := Aside0.mk (hb.take at_ (by omega))
  have H2 := Aside0.mk (hb.drop (at_ + 4) (by omega))
  have s1 := fun W => sl8_h W A n c .i64 (at_ : Int) (by omega) c1
  have s2 := fun W => sl8_l W A n c .i64 ((at_ : Int) + 4) (by omega) c2
  have e2 : ((at_ : Int) + 4).toNat = at_ + 4 := by omega
  simp only [Int.toNat_natCast, e2] at s1 s2
  clear e2
  have hw : IntKind.i64.wrap ((at_ : Int) + 4) = (at_ : Int) + 4 := IntWalk.i64_in _ (by omega)
  go_enter Try.func49, Try.ntmps49
  go_wp2_with fail
  go_region_with (first | (go_at_call 58; refine (of_any _ _ _ _ _ (H1.out.drewN 1)).mono ?_; rintro e w1 ⟨rfl, hB⟩) | (go_at_call 57; refine (update_any _ _ _ _ _ _ ((H2.out.drewN 1).below hB)).mono ?_; rintro e w2 ⟨rfl, hB2⟩))
  go_wp2
  go_ret
  exact ⟨rfl, below_then ((below_drawn (Below.refl _ _) 1).trans hB) hB.size hB2⟩

set_option maxHeartbeats 1000000 in
theorem equal8_any (A : Option Addr) (n c : Nat) (xs : List UInt8) (A' : Option Addr) (n' c' : Nat) (ys : List UInt8) (w : World) (hb : Bs w A n c xs) (hb' : Bs w A' n' c' ys) :
    Calls Try.prog 12 #[.slice A n c, .slice A' n' c'] w fun e w' => e = .returned (.bool (xs == ys)) ∧ w = w' := by
  have h1 := conv8 hb
  have h2 := conv8 hb'
  go_enter Try.func12, Try.ntmps12
  go_wp2
  go_ret
  exact ⟨ret_bool (by simp only [strB_list]), rfl⟩

theorem getD_b8 {xs ys : List UInt8} {j : Nat} (h : b8 xs j = b8 ys j) (h1 : j < xs.length) (h2 : j < ys.length) : xs[j] = ys[j] := by
  simp only [b8, List.getD_eq_getElem?_getD, List.getElem?_eq_getElem h1, List.getElem?_eq_getElem h2, Option.getD_some] at h
  exact UInt8.toNat_inj.mp (by omega)
theorem beq_false_of_b8 {xs ys : List UInt8} {j : Nat} (h : b8 xs j ≠ b8 ys j) : (xs == ys) = false := by
  rw [beq_eq_false_iff_ne]
  rintro rfl
  exact h rfl

set_option maxHeartbeats 1000000 in
theorem sequal8_any (A : Option Addr) (n c : Nat) (xs : List UInt8) (A' : Option Addr) (n' c' : Nat) (ys : List UInt8) (w : World) (hb : Bs w A n c xs) (hb' : Bs w A' n' c' ys) :
    Calls Try.prog 53 #[.slice A n c, .slice A' n' c'] w fun e w' => e = .returned (.bool (xs == ys)) ∧ ∃ m, w' = w.drewN m := by
  have hlim := hb.lim
  by_cases hn : n = n'
  · subst hn
    have hl := Aside0.mk (And.intro hb.len hb'.len)
    go_enter Try.func53, Try.ntmps53
    go_wp2
    go_loopg [13] n (fun k i wr => ∃ (j m : Nat), Aside (k + j = n ∧ xs.take j = ys.take j) ∧ i = .int .i64 (j : Int) ∧ wr = w.drewN m)
    case atStart => exact ⟨0, 0, ⟨rfl, by simp⟩, rfl, rfl⟩
    case round =>
      obtain ⟨j, m, hk, rfl, rfl⟩ := hrel
      by_cases hlt : j < n
      · obtain ⟨ad, rfl, hx⟩ := hb.atN j hlt
        obtain ⟨ad', rfl, hx'⟩ := hb'.atN j hlt
        go_wp2
        go_quiet (fail)
        by_cases he : b8 xs j = b8 ys j
        · have h1 : (b8 xs j == b8 ys j) = true := beq_iff_eq.mpr he
          have h2 : (b8 xs j != b8 ys j) = false := bne_eq_false_iff_eq.mpr he
          have he' := Aside0.mk he
          clear he
          go_wp2
          go_roundg (n - (j + 1))
          case measure => have := hk.out.1; omega
          case rel =>
            obtain ⟨h3, h4⟩ := hk.out
            obtain ⟨l1, l2⟩ := hl.out
            refine ⟨j + 1, m + nq, ⟨by omega, ?_⟩, by go_num, by first | rfl | rw [World.drewN_drewN]⟩
            rw [List.take_succ_eq_append_getElem (by omega), List.take_succ_eq_append_getElem (by omega), h4, getD_b8 he'.out (by omega) (by omega)]
        · have h1 : (b8 xs j == b8 ys j) = false := beq_eq_false_iff_ne.mpr he
          have h2 : (b8 xs j != b8 ys j) = true := bne_iff_ne.mpr he
          have he' := Aside0.mk he
          clear he
          go_wp2
          go_ret
          exact ⟨ret_bool (beq_false_of_b8 he'.out).symm, m + nq, by first | rfl | rw [World.drewN_drewN]⟩
      · go_wp2
        go_ret
        obtain ⟨h3, h4⟩ := hk.out
        obtain ⟨l1, l2⟩ := hl.out
        obtain rfl : j = n := by omega
        refine ⟨ret_bool ?_, m, rfl⟩
        have e1 : xs.take j = xs := List.take_of_length_le (by omega)
        have e2 : ys.take j = ys := List.take_of_length_le (by omega)
        rw [e1, e2] at h4
        rw [h4]
        simp
  · have h1 : ((n : Int) == (n' : Int)) = false := by simp; omega
    have h2 : ((n : Int) != (n' : Int)) = true := by simp; omega
    have h3 : (n == n') = false := by simp; omega
    have h4 : (xs == ys) = false := by
      rw [beq_eq_false_iff_ne]
      rintro rfl
      exact hn (hb.len.symm.trans hb'.len)
    go_enter Try.func53, Try.ntmps53
    go_wp2
    go_ret
    exact ⟨ret_bool h4.symm, 0, rfl⟩

end Go.Proofs.Ytenibcbodjkglaa
