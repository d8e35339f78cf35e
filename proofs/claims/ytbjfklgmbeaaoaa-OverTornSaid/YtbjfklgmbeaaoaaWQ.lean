/- ref08's Encode. -/
import Derived.Test.YtbjfklgmbeaaoaaWP
set_option linter.unusedVariables false
set_option linter.unusedSimpArgs false
namespace Go.Proofs.Ytbjfklgmbeaaoaa
open Go.RowKit

theorem le8_small (x k : Nat) (h : x < 256 ^ k) : ∀ j, le8 (x : Int) (k + j) = le8 (x : Int) k ++ List.replicate j 0
  | 0 => by simp
  | j + 1 => by
    have h2 : ((x : Int) / 256 ^ (k + j)) = 0 := by
      refine Int.ediv_eq_zero_of_lt (by omega) ?_
      have h3 : 256 ^ k ≤ 256 ^ (k + j) := Nat.pow_le_pow_right (by omega) (by omega)
      have h4 : x < 256 ^ (k + j) := Nat.lt_of_lt_of_le h h3
      have h5 : ((x : Nat) : Int) < ((256 ^ (k + j) : Nat) : Int) := by omega
      rw [Int.natCast_pow] at h5
      exact h5
    rw [show k + (j + 1) = (k + j) + 1 by omega, le8, le8_small x k h j, h2, List.append_assoc, List.replicate_succ']
    rfl
theorem exHd_eq (n m : Nat) (hn : n ≤ 255) (hm : m ≤ 65535) : rwHd 79 3 (n : Int) (m : Int) = [79, 3, UInt8.ofNat n, 0, 0, 0, 0, 0, UInt8.ofNat (m % 256), UInt8.ofNat (m / 256), 0, 0, 0, 0, 0, 0] := by
  have e1 : le8 (n : Int) 2 = le8 (n : Int) 1 ++ List.replicate 1 0 := le8_small n 1 (by omega) 1
  have e2 : le8 (m : Int) 8 = le8 (m : Int) 2 ++ List.replicate 6 0 := le8_small m 2 (by omega) 6
  have e3 : le8 (n : Int) 1 = [UInt8.ofNat n] := by
    have h0 : ((n : Int) / 256 ^ 0 % 256).toNat = n := by rw [Int.pow_zero, Int.ediv_one]; omega
    show [] ++ [UInt8.ofNat ((n : Int) / 256 ^ 0 % 256).toNat] = _
    rw [h0]
    rfl
  have e4 : le8 (m : Int) 2 = [UInt8.ofNat (m % 256), UInt8.ofNat (m / 256)] := by
    have h0 : ((m : Int) / 256 ^ 0 % 256).toNat = m % 256 := by rw [Int.pow_zero, Int.ediv_one]; omega
    have h1 : ((m : Int) / 256 ^ 1 % 256).toNat = m / 256 := by rw [show (256 : Int) ^ 1 = 256 from rfl]; omega
    show ([] ++ [UInt8.ofNat ((m : Int) / 256 ^ 0 % 256).toNat]) ++ [UInt8.ofNat ((m : Int) / 256 ^ 1 % 256).toNat] = _
    rw [h0, h1]
    rfl
  unfold rwHd
  rw [if_pos (by omega), show (iwI 3).toNat = 8 from rfl, e1, e2, e3, e4, le8_zero]
  rfl
theorem exHd_bs (W : World) (n m : Nat) (hn : n ≤ 255) (hm : m ≤ 65535) : Bs (W.alloc (.cells #[.int .u8 79, .int .u8 3, .int .u8 (n : Int), .int .u8 0, .int .u8 0, .int .u8 0, .int .u8 0, .int .u8 0, .int .u8 ((m : Int) % 256), .int .u8 ((m : Int) / 256), .int .u8 0, .int .u8 0, .int .u8 0, .int .u8 0, .int .u8 0, .int .u8 0] 5)) (some ⟨W.heap.size, 0, none⟩) 16 16 (rwHd 79 3 (n : Int) (m : Int)) := by
  refine Bs.lit W W.heap.size rfl _ _ _ 16 16 _ ?_ (exHd_len _ _) (by omega) (by omega) (by omega)
  rw [exHd_eq n m hn hm]
  have h1 : ((UInt8.ofNat n).toNat : Int) = (n : Int) := by rw [UInt8.toNat_ofNat']; omega
  have h2 : ((UInt8.ofNat (m % 256)).toNat : Int) = (m : Int) % 256 := by rw [UInt8.toNat_ofNat']; omega
  have h3 : ((UInt8.ofNat (m / 256)).toNat : Int) = (m : Int) / 256 := by rw [UInt8.toNat_ofNat']; omega
  simp only [u8v, List.map_cons, List.map_nil, h1, h2, h3]
  rfl
theorem ex_join {v : List UInt8} {n : Nat} (h : 16 + v.length ≤ 256 * n) : (exL v n).flatten = exA v n := by
  have hl := exA_len h
  have key : ∀ k, k ≤ n → ((List.range k).map (exP v n)).flatten = (exA v n).take (256 * k) := by
    intro k
    induction k with
    | zero => intro _; simp
    | succ k ih =>
      intro hk
      rw [List.range_succ, List.map_append, List.flatten_append, ih (by omega)]
      simp only [List.map_cons, List.map_nil, List.flatten_cons, List.flatten_nil, List.append_nil]
      unfold exP
      rw [show 256 * (k + 1) = 256 * k + 256 by omega, List.take_add]
  rw [exL, key n (Nat.le_refl _), List.take_of_length_le (by omega)]
set_option maxHeartbeats 8000000 in
set_option maxRecDepth 100000 in
theorem rencode8_any (g : Int) (B : Option Addr) (m d : Nat) (xs : List UInt8) (A : Option Addr) (n c : Nat) (zs : List Int) (w : World) (hg : 1 ≤ g ∧ g ≤ 3) (hb : Bs w B m d xs) (hz : Rc w 1 A n c (iv zs)) (hz2 : ∀ z, z ∈ zs → -9223372036854775808 ≤ z ∧ z ≤ 9223372036854775807) :
    Calls Try.prog 52 #[.int .i64 g, .slice B m d, .slice A n c] w fun e w' => ∃ A1 c1, e = .returned (.tuple #[.slice A1 (ovL g xs zs).flatten.length c1, .int .i64 (ovE g xs zs)]) ∧ Ow w' w.heap.size A1 (ovL g xs zs).flatten.length c1 (ovL g xs zs).flatten ∧ Below w.heap.size w w' := by
  have hlen : zs.length = n := by have := hz.len; rw [iv_len] at this; omega
  have hml := hb.len
  obtain ⟨mm, hmm⟩ : ∃ x, ovM g (m : Int) = x := ⟨_, rfl⟩
  have hE : ovE g xs zs = if mayB g zs mm = true then 0 else 1 := by unfold ovE; rw [hml, hmm]
  cases q : mayB g zs mm with
  | false =>
    rw [q, if_neg (by decide)] at hE
    have hL : ovL g xs zs = [] := by unfold ovL; rw [hE, if_neg (by decide)]
    have HQ := Aside0.mk (And.intro hmm (And.intro q (And.intro hE (And.intro hL (And.intro hz hg)))))
    clear hmm q hE hL hlen hml hb hz hz2 hg
    go_enter Try.func52, Try.ntmps52
    go_wp2_with (first
      | (go_at_call 15; refine (rMany_any g (m : Int) _).mono ?_; rintro e w1 ⟨rfl, rfl⟩; rw [HQ.out.1])
      | (go_at_call 93; refine (rMay_any g A n c zs mm _ HQ.out.2.2.2.2.2 HQ.out.2.2.2.2.1).mono ?_; rintro e w2 ⟨rfl, hB⟩; rw [HQ.out.2.1]; (have H1 := Aside0.mk hB); clear hB))
    go_ret2
    rw [HQ.out.2.2.2.1, HQ.out.2.2.1]
    exact ⟨none, 0, rfl, Ow.nil _ _, H1.out⟩
  | true =>
    rw [q, if_pos rfl] at hE
    obtain ⟨h0, hn0, _⟩ := may_many q
    rw [hlen] at hn0
    have hin := ovM_in (g := g) (m := (m : Int)) (by rw [hmm]; exact h0)
    have hhi := ovM_hi g (m : Int)
    rw [hmm] at hhi
    cases qs : sgB g with
    | true =>
      have hL : ovL g xs zs = chL g xs zs := by unfold ovL; rw [hE, if_pos rfl, if_pos qs]
      obtain rfl : mm = (n : Int) := hn0.symm
      obtain ⟨cp, hcp⟩ := Int.eq_ofNat_of_zero_le (show 0 ≤ cpI g by rcases (show g = 1 ∨ g = 2 ∨ g = 3 by omega) with h | h | h <;> rw [h] <;> decide)
      have hfac : (cp = 248 ∨ cp = 240) ∧ m ≤ n * cp ∧ (n - 1) * cp < m := by
        have hg12 : g = 1 ∨ g = 2 := of_decide_eq_true qs
        unfold ovM at hmm
        rcases hg12 with rfl | rfl
        · obtain rfl : cp = 248 := by have : cpI 1 = 248 := rfl; omega
          split at hmm
          · omega
          · split at hmm
            · omega
            · split at hmm <;> omega
        · obtain rfl : cp = 240 := by have : cpI 2 = 240 := rfl; omega
          split at hmm
          · omega
          · split at hmm
            · omega
            · split at hmm <;> omega
      have g3 : (g == 3) = false := beq_eq_false_iff_ne.2 (by rintro rfl; cases qs)
      have HQ := Aside0.mk (And.intro hmm (And.intro q (And.intro hE (And.intro hL (And.intro hz (And.intro hb (And.intro hml (And.intro hlen (And.intro hg (And.intro hcp hz2))))))))))
      have HF := Aside0.mk hfac
      have hm2 : m ≤ 1600 := by omega
      have hn2 : n ≤ 7 := by omega
      have hn1 : 1 ≤ n := by omega
      have hcp2 : cp ≤ 248 := by omega
      clear hmm q hE hL hlen hml hb hz hz2 qs hin hhi h0 hn0 hg hcp hfac
      go_enter Try.func52, Try.ntmps52
      go_wp2_with (first
        | (go_at_call 15; refine (rMany_any g (m : Int) _).mono ?_; rintro e w1 ⟨rfl, rfl⟩; rw [HQ.out.1])
        | (go_at_call 93; refine (rMay_any g A n c zs (n : Int) _ HQ.out.2.2.2.2.2.2.2.2.1 HQ.out.2.2.2.2.1).mono ?_; rintro e w2 ⟨rfl, hB⟩; rw [HQ.out.2.1]; (have H1 := Aside0.mk hB); clear hB)
        | (go_at_call 14; refine (rCap_any g _).mono ?_; rintro e w3 ⟨rfl, rfl⟩; rw [HQ.out.2.2.2.2.2.2.2.2.2.1]))
      go_loopg [1, 8, 11] n (fun gk v1 v8 v11 wr => ∃ (j mj dj c8 ll : Nat) (Bj A8 : Option Addr), Aside (gk + j = n) ∧ v1 = .slice Bj mj dj ∧ v8 = .slice A8 ll c8 ∧ v11 = .int .i64 (j : Int) ∧ Aside0 (Bs w Bj mj dj (xs.drop (j * cp)) ∧ Ow wr w.heap.size A8 ll c8 ((chL g xs zs).take j).flatten ∧ Below w.heap.size w wr ∧ ll ≤ 256 * j))
      case atStart => exact ⟨0, m, d, 0, 0, B, none, rfl, rfl, rfl, rfl, ⟨by rw [Nat.zero_mul, List.drop_zero]; exact HQ.out.2.2.2.2.2.1, Ow.nil _ _, H1.out, by omega⟩⟩
      case round =>
        obtain ⟨j, mj, dj, c8, ll, Bj, A8, hk, rfl, rfl, rfl, hI⟩ := hrel
        have hjm : j ≤ n := by have := hk.out; omega
        have hmj : mj = m - j * cp := by have := hI.out.1.len; rw [List.length_drop, HQ.out.2.2.2.2.2.2.1] at this; omega
        have hmm : mj ≤ 1600 := by omega
        rcases Nat.lt_or_ge j n with hlt | hge
        · have dj1 : decide ((j : Int) < (n : Int)) = true := decide_eq_true (by omega)
          have djn : (j : Int) < (n : Int) := by omega
          obtain ⟨j1, hj1⟩ : ∃ j1, j + 1 = j1 := ⟨_, rfl⟩
          have wj : IntKind.i64.wrap ((j : Int) + 1) = (j1 : Int) := (IntWalk.i64_in _ (by omega)).trans (by omega)
          have hj1n : j1 ≤ n := by omega
          have hmul1 : j1 * cp = j * cp + cp := by rw [← hj1, Nat.succ_mul]
          obtain ⟨mq, hmq⟩ : ∃ x, min mj cp = x := ⟨_, rfl⟩
          obtain ⟨nx, hnx⟩ : ∃ x, zs.getD j1 0 = x := ⟨_, rfl⟩
          have hnb : -9223372036854775808 ≤ nx ∧ nx ≤ 9223372036854775807 := by
            rw [← hnx, List.getD_eq_getElem?_getD]
            cases hq : zs[j1]? with
            | none => exact ⟨by decide, by decide⟩
            | some z => exact HQ.out.2.2.2.2.2.2.2.2.2.2 z (List.mem_of_getElem? hq)
          have hcase : (j1 < n → mq = cp) ∧ (j1 = n → mq = mj) := by
            constructor
            · intro h
              have h1 := Nat.mul_le_mul_right cp (show j1 ≤ n - 1 by omega)
              have := HF.out.2.2
              omega
            · intro h
              subst h
              have := HF.out.2.1
              omega
          have hpg : chP g xs zs j = rwB 79 g (mq : Int) nx ((xs.drop (j * cp)).take mq) := by
            unfold chP
            have e3 : (cpI g).toNat = cp := by rw [HQ.out.2.2.2.2.2.2.2.2.2.1]; rfl
            rw [e3, hj1, hnx, HQ.out.2.2.2.2.2.2.1, ← hmj, hmq, wrB_eq hnb.2]
          have hmq2 : mq ≤ mj := by omega
          have hmq3 : mq ≤ 1600 := by omega
          have HJ := Aside0.mk (And.intro hj1 (And.intro hmul1 (And.intro hmq (And.intro hnx (And.intro hcase (And.intro hpg (And.intro hnb hmj)))))))
          clear hj1 hmul1 hmq hnx hcase hpg hnb hmj
          go_upto_if 68 with fail
          go_cut [12, 13] (fun v12 v13 wx => v12 = .int .i64 (mq : Int) ∧ v13 = .int .i64 nx ∧ wx = wr)
          case first =>
            by_cases q : (j1 : Int) < (n : Int)
            · have dq : decide ((j1 : Int) < (n : Int)) = true := decide_eq_true q
              obtain ⟨ad, z, rfl, hzj, k0⟩ := (HQ.out.2.2.2.2.1.below hI.out.2.2.1).int j1 (by omega)
              obtain rfl : z = nx := (getD_of hzj).symm.trans HJ.out.2.2.2.1
              obtain rfl : mq = cp := HJ.out.2.2.2.2.1.1 (by omega)
              clear hzj
              go_wp2_with fail
              go_meet
              exact ⟨rfl, rfl, rfl⟩
            · have dq : decide ((j1 : Int) < (n : Int)) = false := decide_eq_false q
              have dq2 : decide (j1 < n) = false := decide_eq_false (by omega)
              obtain rfl : mq = mj := HJ.out.2.2.2.2.1.2 (by omega)
              obtain rfl : nx = 0 := by
                rw [← HJ.out.2.2.2.1, List.getD_eq_getElem?_getD, List.getElem?_eq_none (by rw [HQ.out.2.2.2.2.2.2.2.1]; omega)]
                rfl
              go_wp2_with fail
              go_meet
              exact ⟨rfl, rfl, rfl⟩
          case rest =>
            obtain ⟨rfl, rfl, rfl⟩ := hcut
            have sl := fun W => sl8_h W Bj mj dj .i64 (mq : Int) (by omega) (by have := hI.out.1.le; omega)
            have slt : ((mq : Int)).toNat = mq := by omega
            have sl2 := fun W => sl8_l W Bj mj dj .i64 (mq : Int) (by omega) (by omega)
            obtain ⟨pg, hpg⟩ : ∃ x, rwB 79 g (mq : Int) nx ((xs.drop (j * cp)).take mq) = x := ⟨_, rfl⟩
            have HPG := Aside0.mk hpg
            have hpl : pg.length ≤ 256 := by
              rw [← hpg]
              by_cases qe : rwE 79 g (mq : Int) nx ((xs.drop (j * cp)).take mq).length = 0
              · obtain ⟨S, _, _, _, _, _, _, _, hlen⟩ := rwB_form HJ.out.2.2.2.2.2.2.1.2 qe
                omega
              · rw [rwB, if_neg qe]
                simp
            have hll : ll + pg.length ≤ 140737488355328 := by have := hI.out.2.2.2; omega
            have HPL := Aside0.mk hpl
            clear hpg hpl
            go_wp2_with (first
              | (go_at_call 36; refine (rwrap_any 79 g (mq : Int) nx Bj mq dj ((xs.drop (j * cp)).take mq) wc ((hI.out.1.below hI.out.2.2.1).take mq hmq2) ⟨by omega, by omega⟩ HJ.out.2.2.2.2.2.2.1).mono ?_; rintro e w5 ⟨A5, c5, rfl, hO, hB⟩; (rw [HPG.out] at hO); rw [HPG.out]; (have H5 := Aside0.mk (And.intro hO (And.intro (below_then hI.out.2.2.1 hI.out.2.2.1.size hB) (hI.out.2.1.below hB)))); clear hO hB)
              | (at_builtin; refine wpl_a8 (w0 := w) w.heap.size rfl _ _ rfl A8 ll c8 ((chL g xs zs).take j).flatten A5 pg.length c5 pg (ll + pg.length) (((chL g xs zs).take j).flatten ++ pg) rfl rfl H5.out.2.2 H5.out.1.bs H5.out.2.1 H5.out.2.1.size rfl hll rfl ?_; intro A6 c6 w6 hO6 hB6))
            go_roundg (n - j1)
            case measure => have := hk.out; have := HJ.out.1; omega
            case rel =>
              have e1 := HJ.out.1
              refine ⟨j1, mj - mq, dj - mq, c6, ll + pg.length, cutA Bj dj mq, A6, (by show n - j1 + j1 = n; omega), by go_num, rfl, by (rw [← e1]) <;> go_num, ⟨?_, ?_, hB6.out, by have := hI.out.2.2.2; have := HPL.out; omega⟩⟩
              · have h9 := hI.out.1.drop mq hmq2
                rw [List.drop_drop] at h9
                have h8 : xs.drop (j * cp + mq) = xs.drop (j1 * cp) := by
                  have h7 := HJ.out.2.1
                  have h6 := HJ.out.2.2.1
                  have h5 := HJ.out.2.2.2.2.2.2.2
                  have h4 := HQ.out.2.2.2.2.2.2.1
                  by_cases q : cp ≤ mj
                  · rw [h7, show mq = cp by omega]
                  · rw [List.drop_eq_nil_of_le (by omega), List.drop_eq_nil_of_le (by omega)]
                rwa [h8] at h9
              · have h9 := hO6.out
                have h8 : ((chL g xs zs).take j1).flatten = ((chL g xs zs).take j).flatten ++ pg := by
                  rw [← e1, ch_get (by rw [HQ.out.2.2.2.2.2.2.2.1]; exact hlt), List.flatten_append, HJ.out.2.2.2.2.2.1, HPG.out]
                  simp
                rw [h8]
                exact h9
        · obtain rfl : n = j := by omega
          have d1 : decide ((n : Int) < (n : Int)) = false := by simp
          have h9 := hI.out.2.1
          rw [List.take_of_length_le (by rw [chL_len, HQ.out.2.2.2.2.2.2.2.1]; exact Nat.le_refl _)] at h9
          have H9 := Aside0.mk (And.intro h9 hI.out.2.2.1)
          clear h9
          go_wp2_with fail
          go_ret2
          rw [HQ.out.2.2.2.1, HQ.out.2.2.1, H9.out.1.len]
          exact ⟨A8, c8, rfl, H9.out.1, H9.out.2⟩
    | false =>
      obtain rfl : g = 3 := by
        unfold sgB at qs
        have := of_decide_eq_false qs
        omega
      have hr := ovM_room (m := (m : Int)) hmm h0
      obtain rfl : mm = (n : Int) := hn0.symm
      have hL : ovL 3 xs zs = exL xs n := by unfold ovL; rw [hE, if_pos rfl, if_neg (by rw [qs]; decide), hlen]
      have HQ := Aside0.mk (And.intro hmm (And.intro q (And.intro hE (And.intro hL (And.intro hz (And.intro hb hml))))))
      have h33 : 33 ≤ m := by omega
      have hm2 : m ≤ 1600 := by omega
      have hn2 : n ≤ 7 := by omega
      have hrm : 16 + m ≤ 256 * n := by omega
      clear hmm q hE hL hlen hml hb hz hz2 qs hin hhi h0 hn0 hr hg
      go_enter Try.func52, Try.ntmps52
      have hd16 := exHd_len (n : Int) (m : Int)
      obtain ⟨hd, hhd⟩ : ∃ x, rwHd 79 3 (n : Int) (m : Int) = x := ⟨_, rfl⟩
      have hbl : ∀ W : World, Bs (W.alloc (.cells #[.int .u8 79, .int .u8 3, .int .u8 (n : Int), .int .u8 0, .int .u8 0, .int .u8 0, .int .u8 0, .int .u8 0, .int .u8 ((m : Int) % 256), .int .u8 ((m : Int) / 256), .int .u8 0, .int .u8 0, .int .u8 0, .int .u8 0, .int .u8 0, .int .u8 0] 5)) (some ⟨W.heap.size, 0, none⟩) 16 16 hd := fun W => by rw [← hhd]; exact exHd_bs W n m (by omega) (by omega)
      have HBL := Aside0.mk hbl
      have HHD := Aside0.mk (And.intro hhd (show hd.length = 16 by rw [← hhd]; exact hd16))
      clear hbl hhd hd16
      go_upto_region 7 with (first
        | (go_at_call 15; refine (rMany_any 3 (m : Int) _).mono ?_; rintro e w1 ⟨rfl, rfl⟩; rw [HQ.out.1])
        | (go_at_call 93; refine (rMay_any 3 A n c zs (n : Int) _ ⟨by omega, by omega⟩ HQ.out.2.2.2.2.1).mono ?_; rintro e w2 ⟨rfl, hB⟩; rw [HQ.out.2.1]; (have H1 := Aside0.mk hB); clear hB)
        | (at_builtin; refine wpl_a8 (w0 := w) w.heap.size rfl _ _ rfl none 0 0 [] _ 16 16 hd 16 hd rfl rfl (Ow.nil _ _) (HBL.out w2) (below_alloc H1.out H1.out.size _) (by have := H1.out.size; simp; omega) rfl (by omega) rfl ?_; intro A5 c5 w5 hO5 hB5))
      go_upto_region 8 with (at_builtin; refine wpl_a8 (w0 := w) w.heap.size rfl _ _ rfl A5 16 c5 hd B m d xs (16 + m) (hd ++ xs) rfl rfl hO5.out (HQ.out.2.2.2.2.2.1.below hB5.out) hB5.out hB5.out.size rfl (by omega) rfl ?_; intro A6 c6 w6 hO6 hB6)
      obtain ⟨nn, hnn⟩ : ∃ x, 256 * n = x := ⟨_, rfl⟩
      obtain ⟨p, hp⟩ : ∃ x, nn - (16 + m) = x := ⟨_, rfl⟩
      have hnn2 : nn = 16 + m + p := by omega
      have hnn3 : nn ≤ 1792 := by omega
      have wn : IntKind.i64.wrap (256 * (n : Int)) = (nn : Int) := (IntWalk.i64_in _ (by omega)).trans (by omega)
      have HNN := Aside0.mk (And.intro hnn (And.intro hp hnn2))
      have H6 := Aside0.mk (And.intro hO6.out hB6.out)
      clear hnn hp hO5 hB5 hO6 hB6 hnn2 hrm
      go_loopg [8] p (fun gk v8 wr => ∃ (j : Nat) (A7 : Option Addr) (c7 ll : Nat), Aside (gk + j = p) ∧ v8 = .slice A7 ll c7 ∧ Aside0 (ll = 16 + m + j ∧ Ow wr w.heap.size A7 ll c7 ((hd ++ xs) ++ List.replicate j 0) ∧ Below w.heap.size w wr))
      case atStart => exact ⟨0, A6, c6, 16 + m, rfl, rfl, ⟨rfl, by rw [List.replicate_zero, List.append_nil]; exact H6.out.1, H6.out.2⟩⟩
      case round =>
        obtain ⟨j, A7, c7, ll, hk, rfl, hI⟩ := hrel
        have hjp : j ≤ p := by have := hk.out; omega
        rcases Nat.lt_or_ge j p with hlt | hge
        · have gr : decide ((ll : Int) < (nn : Int)) = true := decide_eq_true (by have := hI.out.1; have := HNN.out.2.2; omega)
          have gr2 : decide (ll < nn) = true := decide_eq_true (by have := hI.out.1; have := HNN.out.2.2; omega)
          have HLt := Aside0.mk (Bs.lit wr wr.heap.size rfl #[.int .u8 0] 5 (0, 0) 1 1 [0] rfl rfl (Nat.le_refl _) (by omega) (by omega))
          have HA := Aside0.mk (And.intro (hI.out.2.1.alloc (.cells #[.int .u8 0] 5)) (below_alloc hI.out.2.2 hI.out.2.2.size (.cells #[.int .u8 0] 5)))
          have HZ := Aside0.mk (show ((hd ++ xs) ++ List.replicate j 0) ++ [0] = (hd ++ xs) ++ List.replicate (j + 1) (0 : UInt8) by rw [List.append_assoc _ _ [0], List.replicate_succ'])
          have HLL := Aside0.mk (show ll ≤ 2000 by have := hI.out.1; have := HNN.out.2.2; omega)
          go_wp2_with (at_builtin; refine wpl_a8 (w0 := w) w.heap.size rfl _ _ rfl A7 ll c7 ((hd ++ xs) ++ List.replicate j 0) _ 1 1 [0] (ll + 1) ((hd ++ xs) ++ List.replicate (j + 1) 0) rfl rfl HA.out.1 HLt.out HA.out.2 (by have := hI.out.2.2.size; first | (simp; done) | (simp; omega)) rfl (by have := HLL.out; omega) HZ.out ?_; intro A8 c8 w8 hO8 hB8)
          go_roundg (p - (j + 1))
          case measure => have := hk.out; omega
          case rel => exact ⟨j + 1, A8, c8, ll + 1, by have := hk.out; exact (show p - (j + 1) + (j + 1) = p by omega), rfl, ⟨by have := hI.out.1; omega, hO8.out, hB8.out⟩⟩
        · obtain rfl : p = j := by omega
          have hll : ll = nn := by have := hI.out.1; have := HNN.out.2.2; omega
          have gr : decide ((ll : Int) < (nn : Int)) = false := decide_eq_false (by omega)
          have gr2 : decide (ll < nn) = false := decide_eq_false (by omega)
          have HLL := Aside0.mk hll
          have HP0 := Aside0.mk (show (hd ++ xs) ++ List.replicate p 0 = exP0 xs n by
            unfold exP0
            rw [HQ.out.2.2.2.2.2.2, HHD.out.1, HNN.out.1, HNN.out.2.1])
          clear hll
          go_wp2_with (go_at_call 90; refine (rseal_any A7 ll c7 ((hd ++ xs) ++ List.replicate p 0) 4 wr hI.out.2.1.bs (by have := HLL.out; omega)).mono ?_; rintro e w9 ⟨A9, c9, rfl, hO9, hB9⟩; (have H9 := Aside0.mk (And.intro (hO9.mono hI.out.2.2.size) (below_then hI.out.2.2 hI.out.2.2.size hB9))); clear hO9 hB9)
          go_ret2
          have hx : rsealB ((hd ++ xs) ++ List.replicate p 0) 4 = exA xs n := by rw [rsealB_eq, HP0.out]; rfl
          have h16 : 16 + xs.length ≤ 256 * n := by have := HNN.out; rw [HQ.out.2.2.2.2.2.2]; omega
          have hfl : (ovL 3 xs zs).flatten = exA xs n := by rw [HQ.out.2.2.2.1, ex_join h16]
          have h9 := H9.out.1
          rw [hx] at h9
          rw [hfl, HQ.out.2.2.1, h9.len]
          exact ⟨A9, c9, rfl, h9, H9.out.2⟩
end Go.Proofs.Ytbjfklgmbeaaoaa
