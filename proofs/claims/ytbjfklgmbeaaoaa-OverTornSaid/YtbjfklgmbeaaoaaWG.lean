/- over.Encode. -/
import Derived.Test.YtbjfklgmbeaaoaaWF
set_option linter.unusedVariables false
set_option linter.unusedSimpArgs false
namespace Go.Proofs.Ytbjfklgmbeaaoaa
open Go.RowKit

theorem Pgf.nil (W : World) (base : Nat) : Pgf W base [] [] := ⟨rfl, fun j p h => by simp at h⟩
theorem Pgs.mono {W : World} {b b' : Nat} {hs : List SH} {l : List (List UInt8)} (h : Pgs W b hs l) (hb : b' ≤ b) : Pgs W b' hs l := ⟨h.len, fun j p hj => by obtain ⟨q, a, k⟩ := h.each j p hj; exact ⟨q, a, k.mono hb⟩⟩
theorem Pgf.mono {W : World} {b b' : Nat} {hs : List SH} {l : List (List UInt8)} (h : Pgf W b hs l) (hb : b' ≤ b) : Pgf W b' hs l := ⟨h.len, fun j p hj => by obtain ⟨q, a, k, r⟩ := h.each j p hj; exact ⟨q, a, k, fun ad e => Nat.le_trans hb (r ad e)⟩⟩
theorem ovM_room {m mm : Int} (h : ovM 3 m = mm) (h0 : 0 < mm) : 33 ≤ m ∧ m ≤ 1600 ∧ mm ≤ 7 ∧ 16 + m ≤ 256 * mm := by
  subst h
  have := ovM_in h0
  have h2 := ovM_hi 3 m
  unfold ovM at *
  split at h0
  · omega
  · split at h0
    · omega
    · split at h0
      · rename_i h3 _ h4
        rw [if_neg h3]
        omega
      · omega
set_option maxHeartbeats 4000000 in
set_option maxRecDepth 100000 in
theorem oencode_any (g : Int) (B : Option Addr) (m d : Nat) (xs : List UInt8) (A : Option Addr) (n c : Nat) (zs : List Int) (w : World) (hb : Bs w B m d xs) (hz : Rc w 1 A n c (iv zs)) (hz2 : ∀ z, z ∈ zs → -9223372036854775808 ≤ z ∧ z ≤ 9223372036854775807) :
    Calls Try.prog 21 #[.int .i64 g, .slice B m d, .slice A n c] w fun e w' => ∃ A1 c1 hs, e = .returned (.tuple #[.slice A1 (ovL g xs zs).length c1, .int .i64 (ovE g xs zs)]) ∧ Oc w' w.heap.size 27 1 A1 (ovL g xs zs).length c1 (shl hs) ∧ Pgf w' w.heap.size hs (ovL g xs zs) ∧ Below w.heap.size w w' := by
  have hlen : zs.length = n := by have := hz.len; rw [iv_len] at this; omega
  have hml := hb.len
  obtain ⟨mm, hmm⟩ : ∃ x, ovM g (m : Int) = x := ⟨_, rfl⟩
  have hE : ovE g xs zs = if mayB g zs mm = true then 0 else 1 := by unfold ovE; rw [hml, hmm]
  cases q : mayB g zs mm with
  | false =>
    rw [q, if_neg (by decide)] at hE
    have hL : ovL g xs zs = [] := by unfold ovL; rw [hE, if_neg (by decide)]
    have HQ := Aside0.mk (And.intro hmm (And.intro q (And.intro hE (And.intro hL hz))))
    clear hmm q hE hL hlen hml hb hz hz2
    go_enter Try.func21, Try.ntmps21
    go_wp2_with (first
      | (go_at_call 11; refine (overMany_any g (m : Int) _).mono ?_; rintro e w1 ⟨rfl, hB⟩; rw [HQ.out.1]; (have H1 := Aside0.mk hB); clear hB)
      | (go_at_call 53; refine (may_any g A n c zs mm w1 (HQ.out.2.2.2.2.below H1.out)).mono ?_; rintro e w2 ⟨rfl, rfl⟩; rw [HQ.out.2.1]))
    go_ret2
    rw [HQ.out.2.2.2.1, HQ.out.2.2.1]
    exact ⟨none, 0, [], rfl, Oc.nil _ _ _ _, Pgf.nil _ _, H1.out⟩
  | true =>
    rw [q, if_pos rfl] at hE
    obtain ⟨h0, hn0, _⟩ := may_many q
    rw [hlen] at hn0
    have hin := ovM_in (g := g) (m := (m : Int)) (by rw [hmm]; exact h0)
    have hhi := ovM_hi g (m : Int)
    rw [hmm] at hhi
    cases qs : sgB g with
    | true =>
      have hL : ovL g xs zs = chL g xs zs := by unfold ovL; rw [hE, if_pos rfl, if_pos qs]
      have HQ := Aside0.mk (And.intro hmm (And.intro q (And.intro hE (And.intro hL (And.intro hz (And.intro hb (And.intro hlen (And.intro hz2 (And.intro qs hin)))))))))
      have hm2 : m ≤ 100000 := by omega
      have hn2 : n ≤ 100000 := by omega
      clear hmm q hE hL hlen hml hb hz hz2 qs hin hhi h0 hn0
      go_enter Try.func21, Try.ntmps21
      go_wp2_with (first
        | (go_at_call 11; refine (overMany_any g (m : Int) _).mono ?_; rintro e w1 ⟨rfl, hB⟩; rw [HQ.out.1]; (have H1 := Aside0.mk hB); clear hB)
        | (go_at_call 53; refine (may_any g A n c zs mm w1 (HQ.out.2.2.2.2.1.below H1.out)).mono ?_; rintro e w2 ⟨rfl, rfl⟩; rw [HQ.out.2.1])
        | (go_at_call 13; refine (single_any g _).mono ?_; rintro e w3 ⟨rfl, rfl⟩; rw [HQ.out.2.2.2.2.2.2.2.2.1])
        | (go_at_call 54; refine (chain_any g B m d xs A n c zs w1 ⟨HQ.out.2.2.2.2.2.2.2.2.2.1, HQ.out.2.2.2.2.2.2.2.2.2.2.1⟩ (HQ.out.2.2.2.2.2.1.below H1.out) (HQ.out.2.2.2.2.1.below H1.out) hm2 hn2 HQ.out.2.2.2.2.2.2.2.1).mono ?_; rintro e w4 ⟨A1, c1, hs, rfl, hO, hP, hB⟩; (have H4 := Aside0.mk (And.intro hO (And.intro hP hB))); clear hO hP hB))
      go_ret2
      have hs1 := H1.out.size
      rw [HQ.out.2.2.2.1, HQ.out.2.2.1, chL_len, HQ.out.2.2.2.2.2.2.1]
      exact ⟨A1, c1, hs, rfl, H4.out.1.mono hs1, (H4.out.2.1.mono hs1).pgf, below_then H1.out hs1 H4.out.2.2⟩
    | false =>
      obtain rfl : g = 3 := by
        unfold sgB at qs
        have := of_decide_eq_false qs
        omega
      have hr := ovM_room (m := (m : Int)) hmm h0
      obtain rfl : mm = (n : Int) := hn0.symm
      have hL : ovL 3 xs zs = exL xs n := by unfold ovL; rw [hE, if_pos rfl, if_neg (by rw [qs]; decide), hlen]
      have HQ := Aside0.mk (And.intro hmm (And.intro q (And.intro hE (And.intro hL (And.intro hz (And.intro hb (And.intro hlen (And.intro qs hr))))))))
      have h33 : 33 ≤ m := by omega
      have hm2 : m ≤ 100000 := by omega
      have hn2 : n ≤ 100 := by omega
      have hrm : 16 + m ≤ 256 * n := by omega
      clear hmm q hE hL hlen hml hb hz hz2 qs hin hhi h0 hn0 hr
      go_enter Try.func21, Try.ntmps21
      go_wp2_with (first
        | (go_at_call 11; refine (overMany_any 3 (m : Int) _).mono ?_; rintro e w1 ⟨rfl, hB⟩; rw [HQ.out.1]; (have H1 := Aside0.mk hB); clear hB)
        | (go_at_call 53; refine (may_any 3 A n c zs (n : Int) w1 (HQ.out.2.2.2.2.1.below H1.out)).mono ?_; rintro e w2 ⟨rfl, rfl⟩; rw [HQ.out.2.1])
        | (go_at_call 13; refine (single_any 3 _).mono ?_; rintro e w3 ⟨rfl, rfl⟩; rw [HQ.out.2.2.2.2.2.2.2.1])
        | (go_at_call 55; refine (extent_any B m d xs n w1 (HQ.out.2.2.2.2.2.1.below H1.out) h33 hm2 hn2 hrm).mono ?_; rintro e w4 ⟨A1, c1, hs, rfl, hO, hP, hB⟩; (have H4 := Aside0.mk (And.intro hO (And.intro hP hB))); clear hO hP hB))
      go_ret2
      have hs1 := H1.out.size
      rw [HQ.out.2.2.2.1, HQ.out.2.2.1, exL_len]
      exact ⟨A1, c1, hs, rfl, H4.out.1.mono hs1, H4.out.2.1.mono hs1, below_then H1.out hs1 H4.out.2.2⟩
end Go.Proofs.Ytbjfklgmbeaaoaa
