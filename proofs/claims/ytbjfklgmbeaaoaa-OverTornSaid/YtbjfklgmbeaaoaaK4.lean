/- The walks of regaugeref07's known, number, put and HeadOf. -/
import Derived.Test.YtbjfklgmbeaaoaaK3
set_option linter.unusedVariables false
set_option linter.unusedSimpArgs false
namespace Go.Proofs.Ytbjfklgmbeaaoaa
open Go.RowKit

theorem known_no {k g : Int} (h : ¬ (k = 76 ∨ k = 66 ∨ k = 79 ∨ k = 70)) : knownB k g = false := by
  unfold knownB
  cases hc : [76, 66, 79, 70].contains k with
  | false => rfl
  | true =>
    rw [List.contains_iff_mem] at hc
    simp only [List.mem_cons, List.not_mem_nil, or_false] at hc
    exact absurd hc h
theorem known_yes {k g : Int} (h : k = 76 ∨ k = 66 ∨ k = 79 ∨ k = 70) : knownB k g = genB g := by
  unfold knownB
  rw [show [76, 66, 79, 70].contains k = true by rw [List.contains_iff_mem]; simpa using h]
  rfl
set_option maxHeartbeats 4000000 in
set_option maxRecDepth 100000 in
theorem rknown7_any (k g : Int) (w : World) : Calls Try.prog 65 #[.int .i64 k, .int .i64 g] w fun e w' => e = .returned (.bool (knownB k g)) ∧ w = w' := by
  by_cases h : k = 76 ∨ k = 66 ∨ k = 79 ∨ k = 70
  · rw [known_yes h]
    by_cases g1 : 1 ≤ g
    · by_cases g2 : g ≤ 3
      · have e1 : decide (1 ≤ g) = true := decide_eq_true g1
        have e2 : decide (g ≤ 3) = true := decide_eq_true g2
        rw [show genB g = true from decide_eq_true ⟨g1, g2⟩]
        clear g1 g2
        rcases h with rfl | rfl | rfl | rfl <;>
        · go_enter Try.func65, Try.ntmps65
          go_wp2
          go_ret
          exact ⟨rfl, rfl⟩
      · have e1 : decide (1 ≤ g) = true := decide_eq_true g1
        have e2 : decide (g ≤ 3) = false := decide_eq_false g2
        rw [show genB g = false from decide_eq_false (fun q => g2 q.2)]
        clear g1 g2
        rcases h with rfl | rfl | rfl | rfl <;>
        · go_enter Try.func65, Try.ntmps65
          go_wp2
          go_ret
          exact ⟨rfl, rfl⟩
    · have e1 : decide (1 ≤ g) = false := decide_eq_false g1
      rw [show genB g = false from decide_eq_false (fun q => g1 q.1)]
      clear g1
      rcases h with rfl | rfl | rfl | rfl <;>
      · go_enter Try.func65, Try.ntmps65
        go_wp2
        go_ret
        exact ⟨rfl, rfl⟩
  · rw [known_no h]
    have e1 : (k == 76) = false := beq_eq_false_iff_ne.2 (fun q => h (.inl q))
    have e2 : (k == 66) = false := beq_eq_false_iff_ne.2 (fun q => h (.inr (.inl q)))
    have e3 : (k == 79) = false := beq_eq_false_iff_ne.2 (fun q => h (.inr (.inr (.inl q))))
    have e4 : (k == 70) = false := beq_eq_false_iff_ne.2 (fun q => h (.inr (.inr (.inr q))))
    clear h
    go_enter Try.func65, Try.ntmps65
    go_wp2
    go_ret
    exact ⟨rfl, rfl⟩
def nm7 (xs : List UInt8) : Int := if leN xs ≤ 9223372036854775807 then (leN xs : Int) else -1
theorem leN_step (xs : List UInt8) (k : Nat) (h : k < xs.length) : (leN (xs.drop k) : Int) = (leN (xs.drop (k + 1)) : Int) * 256 + b8 xs k := by
  rw [List.drop_eq_getElem_cons h]
  unfold b8
  rw [List.getD_eq_getElem?_getD, List.getElem?_eq_getElem h]
  simp only [leN, Option.getD_some]
  omega
theorem leN_drop (xs : List UInt8) : ∀ k, leN (xs.drop k) * 256 ^ k ≤ leN xs
  | 0 => by simp
  | k + 1 => by
    have h := leN_drop xs k
    rcases Nat.lt_or_ge k xs.length with q | q
    · have hs := leN_step xs k q
      have hb := b8_lo xs k
      have h2 : leN (xs.drop (k + 1)) * 256 ≤ leN (xs.drop k) := by omega
      have h3 := Nat.mul_le_mul_right (256 ^ k) h2
      rw [Nat.pow_succ]
      calc leN (xs.drop (k + 1)) * (256 ^ k * 256) = leN (xs.drop (k + 1)) * 256 * 256 ^ k := by rw [Nat.mul_comm (256 ^ k) 256, Nat.mul_assoc]
        _ ≤ leN (xs.drop k) * 256 ^ k := h3
        _ ≤ leN xs := h
    · rw [List.drop_eq_nil_of_le (by omega)]
      simp [leN]
theorem leN_top {xs : List UInt8} (h : xs.length = 8) : leN xs ≤ 9223372036854775807 ↔ b8 xs 7 ≤ 127 := by
  match xs, h with
  | [a, b, c, d, e, f, g, i], _ =>
    unfold b8
    simp only [leN, List.getD_eq_getElem?_getD, List.getElem?_cons_succ, List.getElem?_cons_zero, Option.getD_some]
    have := a.toNat_lt; have := b.toNat_lt; have := c.toNat_lt; have := d.toNat_lt
    have := e.toNat_lt; have := f.toNat_lt; have := g.toNat_lt; have := i.toNat_lt
    omega
theorem leN_below {xs : List UInt8} (h : xs.length ≤ 7) : leN xs ≤ 9223372036854775807 := by
  have := leN_small xs 0 7 (by omega)
  rwa [List.drop_zero, List.take_of_length_le h] at this
set_option maxHeartbeats 4000000 in
set_option maxRecDepth 100000 in
theorem number7_any (A : Option Addr) (n c : Nat) (xs : List UInt8) (w : World) (hb : Bs w A n c xs) (h8 : n ≤ 8) :
    Calls Try.prog 66 #[.slice A n c] w fun e w' => e = .returned (.int .i64 (nm7 xs)) ∧ w = w' := by
  have hlen := hb.len
  have hcap := hb.cap
  by_cases hbig : n = 8 ∧ 127 < b8 xs 7
  · obtain ⟨rfl, h7⟩ := hbig
    have g1 : (((8 : Nat) : Int) == 8) = true := by decide
    have g2 : ((8 : Int) == 8) = true := by decide
    have g3 : decide (127 < b8 xs 7) = true := decide_eq_true h7
    obtain ⟨ad, rfl, hx⟩ := hb.atN 7 (by omega)
    have hx7 : w.cell? ⟨ad.block, ad.off + 7, none⟩ = some (.int .u8 (b8 xs 7)) := hx
    have HV := Aside0.mk (show nm7 xs = -1 from if_neg (fun q => by rw [leN_top hlen] at q; omega))
    clear h7
    go_enter Try.func66, Try.ntmps66
    go_wp2_with fail
    go_ret
    rw [HV.out]
    exact ⟨rfl, rfl⟩
  · have hle : leN xs ≤ 9223372036854775807 := by
      rcases Nat.lt_or_ge n 8 with q | q
      · exact leN_below (by omega)
      · rw [leN_top (by omega)]
        omega
    have HV := Aside0.mk (show nm7 xs = (leN xs : Int) from if_pos hle)
    have HLE := Aside0.mk (show ∀ k, leN (xs.drop k) * 256 ^ k ≤ 9223372036854775807 from fun k => Nat.le_trans (leN_drop xs k) hle)
    have HB := Aside0.mk hb
    have HLN := Aside0.mk hlen
    have key : ∀ (g : Bool), ((n : Int) == 8) = g → (g = true → decide (127 < b8 xs 7) = false) → Calls Try.prog 66 #[.slice A n c] w fun e w' => e = .returned (.int .i64 (nm7 xs)) ∧ w = w' := by
      intro g hg hg2
      have fin : ∀ _ : True, True := fun _ => trivial
      cases g with
      | true =>
        have hn8 : n = 8 := by have := beq_iff_eq.1 hg; omega
        have g3 := hg2 rfl
        obtain ⟨ad, hA, hx⟩ := hb.atN 7 (by omega)
        subst hA
        have hx7 : w.cell? ⟨ad.block, ad.off + 7, none⟩ = some (.int .u8 (b8 xs 7)) := hx
        subst hn8
        have g1 : (((8 : Nat) : Int) == 8) = true := by decide
        have g2 : ((8 : Int) == 8) = true := by decide
        clear hg2 hb hle hbig hlen fin
        go_enter Try.func66, Try.ntmps66
        go_wp2_with fail
        go_loopg [3, 4] 8 (fun g v3 v4 wr => ∃ k, Aside0 (g = k) ∧ wr = w ∧ v4 = .int .i64 ((k : Int) - 1) ∧ Aside (k ≤ 8) ∧ v3 = .int .i64 (leN (xs.drop k) : Int))
        case atStart => exact ⟨8, ⟨rfl⟩, rfl, by go_num, Nat.le_refl _, by rw [← HLN.out, List.drop_length]; rfl⟩
        case round =>
          obtain ⟨k, hgk, rfl, rfl, hk, rfl⟩ := hrel
          rcases Nat.eq_zero_or_pos k with rfl | hp
          · go_wp2_with fail
            go_ret
            rw [HV.out, List.drop_zero]
            exact ⟨rfl, rfl⟩
          · obtain ⟨k, rfl⟩ : ∃ j, k = j + 1 := ⟨k - 1, by omega⟩
            have hkn : k < 8 := by have := hk.out; omega
            have i0 : ((k + 1 : Nat) : Int) - 1 = (k : Int) := by omega
            obtain ⟨ad, hAk, hxk⟩ := HB.out.atN k hkn
            injection hAk with hAk
            subst hAk
            have hx0 := b8_lo xs k
            have hx1 := b8_hi xs k
            obtain ⟨q, hq⟩ : ∃ q, leN (xs.drop (k + 1)) = q := ⟨_, rfl⟩
            have hs := Aside0.mk (leN_step xs k (by rw [HLN.out]; exact hkn))
            have hq2 : (q : Int) * 256 + b8 xs k ≤ 9223372036854775807 := by
              have h1 := HLE.out k
              have h2 := hs.out
              rw [hq] at h2
              have h3 : leN (xs.drop k) ≤ leN (xs.drop k) * 256 ^ k := Nat.le_mul_of_pos_right _ (Nat.pow_pos (by omega))
              omega
            rw [hq, i0]
            rw [hq] at hs
            clear hq
            go_wp2_with fail
            go_roundg k
            case measure => have := hgk.out; omega
            case rel => exact ⟨k, ⟨rfl⟩, rfl, by go_num, Nat.le_of_lt hkn, by rw [hs.out]⟩
      | false =>
        clear hg2 hb hle hbig hlen fin
        go_enter Try.func66, Try.ntmps66
        go_wp2_with fail
        go_loopg [3, 4] n (fun g v3 v4 wr => ∃ k, Aside0 (g = k) ∧ wr = w ∧ v4 = .int .i64 ((k : Int) - 1) ∧ Aside (k ≤ n) ∧ v3 = .int .i64 (leN (xs.drop k) : Int))
        case atStart => exact ⟨n, ⟨rfl⟩, rfl, by go_num, Nat.le_refl _, by rw [← HLN.out, List.drop_length]; rfl⟩
        case round =>
          obtain ⟨k, hgk, rfl, rfl, hk, rfl⟩ := hrel
          rcases Nat.eq_zero_or_pos k with rfl | hp
          · go_wp2_with fail
            go_ret
            rw [HV.out, List.drop_zero]
            exact ⟨rfl, rfl⟩
          · obtain ⟨k, rfl⟩ : ∃ j, k = j + 1 := ⟨k - 1, by omega⟩
            have hkn : k < n := by have := hk.out; omega
            have i0 : ((k + 1 : Nat) : Int) - 1 = (k : Int) := by omega
            obtain ⟨ad, hAk, hxk⟩ := HB.out.atN k hkn
            subst hAk
            have hx0 := b8_lo xs k
            have hx1 := b8_hi xs k
            obtain ⟨q, hq⟩ : ∃ q, leN (xs.drop (k + 1)) = q := ⟨_, rfl⟩
            have hs := Aside0.mk (leN_step xs k (by rw [HLN.out]; exact hkn))
            have hq2 : (q : Int) * 256 + b8 xs k ≤ 9223372036854775807 := by
              have h1 := HLE.out k
              have h2 := hs.out
              rw [hq] at h2
              have h3 : leN (xs.drop k) ≤ leN (xs.drop k) * 256 ^ k := Nat.le_mul_of_pos_right _ (Nat.pow_pos (by omega))
              omega
            rw [hq, i0]
            rw [hq] at hs
            clear hq
            go_wp2_with fail
            go_roundg k
            case measure => have := hgk.out; omega
            case rel => exact ⟨k, ⟨rfl⟩, rfl, by go_num, Nat.le_of_lt hkn, by rw [hs.out]⟩
    refine key _ rfl (fun q => decide_eq_false (fun r => hbig ⟨by have := beq_iff_eq.1 q; omega, r⟩))

set_option maxHeartbeats 4000000 in
set_option maxRecDepth 100000 in
theorem rput7_any (base : Nat) (A : Option Addr) (n0 c0 : Nat) (xs : List UInt8) (n : Int) (m : Nat) (w : World) (k3 : 0 ≤ n) (k4 : n ≤ 9223372036854775807) (hm8 : m ≤ 8) (hn0 : n0 ≤ 1000) (hb : base ≤ w.heap.size) (hO0 : Ow w base A n0 c0 xs) :
    Calls Try.prog 77 #[.slice A n0 c0, .int .i64 n, .int .i64 (m : Int)] w fun e w' => ∃ A' c', e = .returned (.slice A' (n0 + m) c') ∧ Ow w' base A' (n0 + m) c' (xs ++ le8 n m) ∧ Below base w w' := by
  have HO0 := Aside0.mk hO0
  clear hO0
  go_enter Try.func77, Try.ntmps77
  go_wp2_with fail
  go_loopg [0, 1, 7] m (fun k v0 v1 v7 wr => ∃ j : Nat, Aside (k + j = m) ∧ v1 = .int .i64 (n / 256 ^ j) ∧ v7 = .int .i64 (j : Int) ∧ ∃ A7 c7, v0 = .slice A7 (n0 + j) c7 ∧ Aside0 (Ow wr base A7 (n0 + j) c7 (xs ++ le8 n j)) ∧ Aside0 (Below base w wr))
  case atStart => exact ⟨0, rfl, by simp, rfl, A, c0, rfl, ⟨by rw [le8, List.append_nil]; exact HO0.out⟩, ⟨Below.refl _ _⟩⟩
  case round =>
    obtain ⟨j, hk, rfl, rfl, A7, c7, rfl, hO, hB⟩ := hrel
    have hjb : j ≤ m := by have := hk.out; omega
    by_cases hlt : j < m
    · have hjn : (j : Int) < (m : Int) := by omega
      obtain ⟨q0, q1⟩ := div_pow_bound (n := n) k3 k4 j
      obtain ⟨q, hq⟩ : ∃ q, n / 256 ^ j = q := ⟨_, rfl⟩
      rw [hq] at q0 q1 ⊢
      obtain ⟨y, hy⟩ : ∃ y, UInt8.ofNat (q % 256).toNat = y := ⟨_, rfl⟩
      have hyv : q % 256 = (y.toNat : Int) := by rw [← hy, UInt8.toNat_ofNat']; omega
      have hz : (xs ++ le8 n j) ++ [y] = xs ++ le8 n (j + 1) := by rw [List.append_assoc, ← hy, ← hq]; rfl
      have hq' : n / 256 ^ (j + 1) = q / 256 := by rw [← div_pow_succ, hq]
      have hsz : base ≤ wr.heap.size := Nat.le_trans hb hB.out.size
      have HL := Aside0.mk (Bs.lit wr wr.heap.size rfl #[.int .u8 (q % 256)] 5 (0, 0) 1 1 [y] (by rw [hyv]; rfl) rfl (Nat.le_refl _) (by omega) (by omega))
      have HZ := Aside0.mk (And.intro hz (And.intro hq' hsz))
      clear hy hyv hz hq' hq hsz
      go_wp2_with (at_builtin; (refine wpl_a8 (w0 := w) base rfl _ _ rfl _ (n0 + j) c7 (xs ++ le8 n j) _ 1 1 [y] (n0 + (j + 1)) (xs ++ le8 n (j + 1)) rfl rfl (hO.out.alloc _) HL.out (below_alloc hB.out HZ.out.2.2 _) (by simp; exact Nat.le_succ_of_le HZ.out.2.2) (by omega) (by omega) HZ.out.1 ?_); intro A8 c8 w8 hO8 hB8)
      go_roundg (m - (j + 1))
      case measure => have := hk.out; omega
      case rel => exact ⟨j + 1, by have := hk.out; exact (show m - (j + 1) + (j + 1) = m by omega), by rw [HZ.out.2.1], by go_num, A8, c8, rfl, hO8, hB8⟩
    · obtain rfl : j = m := by omega
      go_wp2_with fail
      go_ret
      exact ⟨A7, c7, rfl, hO.out, hB.out⟩


end Go.Proofs.Ytbjfklgmbeaaoaa
