/- slices.Chunk over bytes by 256: what it hands to a loop's body. -/
import Derived.Test.YtbjfklgmbeaaoaaV7
import Derived.Test.YtbjfklgmbeaaoaaZ4
set_option linter.unusedVariables false
set_option linter.unusedSimpArgs false
namespace Go.Proofs.Ytbjfklgmbeaaoaa
open Go.RowKit Go.Shelf
attribute [local go_sem] Oper.semAt_some

theorem ck_sl1 (gb p n c : Nat) (h : p < n) (hc : n ≤ c) (W : World) : (Instr.slice 27 (.slice (some ⟨gb, 0, none⟩) n c) (some (.int .i64 (p : Int))) none none).run Try.prog W = .ok (.slice (some ⟨gb, p, none⟩) (n - p) (c - p)) W := by
  rw [sl8_l W _ n c .i64 (p : Int) (by omega) (by omega), Int.toNat_natCast, cutA, if_neg (by omega), Option.map_some, add_plain]
theorem ck_sl2 (gb p q n c : Nat) (h : p ≤ q) (hq : q ≤ n) (hp : p < n) (hc : n ≤ c) (W : World) : (Instr.slice 27 (.slice (some ⟨gb, 0, none⟩) n c) (some (.int .i64 (p : Int))) (some (.int .i64 (q : Int))) (some (.int .i64 (q : Int)))).run Try.prog W = .ok (.slice (if q = p then some ⟨gb, 0, none⟩ else some ⟨gb, p, none⟩) (q - p) (q - p)) W := by
  rw [run_slice_lhm W _ (some ⟨gb, 0, none⟩) n c und8 .i64 .i64 .i64 (p : Int) (q : Int) (q : Int) (by omega) (by omega) (by omega) (by omega), size8]
  simp [sliced, Result.andThen, add_plain]

set_option maxRecDepth 100000 in
set_option maxHeartbeats 2000000 in
theorem chunk1_in (F : Fence) (m : Nat) (h1 : F.fn 117) (hro : F.round = none) (hm : 1 ≤ m) (l Sx Nx k5 N gb c mm : Nat) (hc : 256 * mm ≤ c) (hl : mm ≤ 1000) (hx1 : Sx < N) (hx2 : Sx ≠ k5) (hx3 : Nx < N) (hx4 : Nx ≠ k5) (J Jx : List Nat → World → Prop)
    (hY : ∀ pre x W, J pre W → pre.length < mm → YieldAt F (m - 1) Try.prog l #[.slice (some ⟨gb, 256 * x, none⟩) 256 256] W fun e W' =>
      (e = .returned (.bool true) ∧ J (pre ++ [x]) W' ∧ KX k5 N W W') ∨ (e = .returned (.bool false) ∧ Jx (pre ++ [x]) W'))
    (W : World) (hBs : W.cell? ⟨Sx, 0, none⟩ = some (.slice (some ⟨gb, 0, none⟩) (256 * mm) c)) (hBn : W.cell? ⟨Nx, 0, none⟩ = some (.int .i64 256)) (hJ : AbidesFrom W.heap.size J) (h0 : J [] W) :
    CallsIn F m Try.prog 117 #[.func (.yield l) #[] #[], .pointer (some ⟨Sx, 0, none⟩), .pointer (some ⟨Nx, 0, none⟩)] W fun e W' => (∃ v, e = .returned v) ∧
      ((∃ ys, ys = upto id mm ∧ J ys W') ∨ (∃ pre, (∃ k, k ≤ mm ∧ pre = upto id k) ∧ Jx pre W')) := by
  obtain ⟨n, hn⟩ : ∃ n, 256 * mm = n := ⟨_, rfl⟩
  rw [hn] at hBs hc
  refine callsIn_of_wp Try.func117 rfl h1 ?_ hro
  simp only [Try.ntmps117, List.size_toArray, List.length_cons, List.length_nil, Nat.reduceAdd, Nat.reduceSub, Array.replicate_succ, Array.replicate_zero, List.push_toArray, List.append_toArray, List.nil_append, List.cons_append]
  gi_wp2
  gi_loopw [4] (fun i wr => ∃ k p : Nat, k ≤ mm ∧ 256 * k = p ∧ i = .int .i64 (p : Int) ∧ J (upto id k) wr ∧ KX k5 N W wr)
    (fun i _ => ((n : Int) - intOf i).toNat)
  case atStart => exact ⟨0, 0, Nat.zero_le _, rfl, rfl, h0, KX.refl _ _ _⟩
  case round =>
    obtain ⟨k, p, hk, hp, rfl, hJs, hnx⟩ := hrel
    have hbs : wr.cell? ⟨Sx, 0, none⟩ = some (.slice (some ⟨gb, 0, none⟩) n c) := (hnx.cell (a := ⟨Sx, 0, none⟩) hx1 hx2).trans hBs
    have hbn : wr.cell? ⟨Nx, 0, none⟩ = some (.int .i64 256) := (hnx.cell (a := ⟨Nx, 0, none⟩) hx3 hx4).trans hBn
    by_cases hlt : k < mm
    · obtain ⟨q, hq⟩ : ∃ q, p + 256 = q := ⟨_, rfl⟩
      have hqn : q ≤ n := by omega
      have hpn : p < n := by omega
      have hq1 : IntKind.i64.wrap ((p : Int) + 256) = (q : Int) := (IntWalk.i64_in _ (by omega)).trans (by omega)
      have hmin : ¬ (n - p < 256) := by omega
      have s1 := ck_sl1 gb p n c hpn hc
      have s2 := ck_sl2 gb p q n c (by omega) hqn hpn hc
      rw [if_neg (by omega), show q - p = 256 by omega] at s2
      have hmin2 : ¬ (((n - p : Nat) : Int) < 256) := by omega
      have hJ2 : J (upto id k) wr.drew := hJ _ _ _ none hJs ⟨rfl, rfl, rfl, Nat.le_refl _, fun _ _ _ => rfl⟩ (fun r e => by cases e)
      obtain ⟨fn, tmps, assign, body, hy, hR⟩ := hY _ k wr.drew hJ2 (by rw [upto_length]; exact hlt)
      rw [hp] at hy
      gi_wp2
      gi_region
      all_goals
        rw [if_neg (show ¬ (((n - p : Nat) : Int) < 256) by omega)]
        gi_wp2
        refine hR.mono ?_
        rintro e W3 (⟨rfl, hJ3, hk3⟩ | ⟨rfl, hJx3⟩)
        · have hbn3 : W3.cell? ⟨Nx, 0, none⟩ = some (.int .i64 256) := (hk3.cell (a := ⟨Nx, 0, none⟩) hx3 hx4).trans hbn
          gi_wp2
          go_roundw
          case rel => exact ⟨k + 1, q, by omega, by omega, by go_num, by rw [upto_succ]; exact hJ3, hnx.trans ((⟨fun _ _ _ => rfl⟩ : KX k5 N wr wr.drew).trans hk3)⟩
          case measure => simp [intOf]; omega
        · gi_wp2
          refine bodyPost_ret (results_none rfl _ _ _) rfl ?_
          exact ⟨⟨_, rfl⟩, .inr ⟨_, ⟨k + 1, by omega, by rw [upto_succ]; rfl⟩, hJx3⟩⟩
    · obtain rfl : k = mm := by omega
      obtain rfl : p = n := by omega
      have hneg : ¬ (p < p) := by omega
      gi_wp2
      go_end0
      exact ⟨⟨_, rfl⟩, .inl ⟨_, rfl, hJs⟩⟩
set_option maxHeartbeats 1000000 in
/-- slices.Chunk: the slice and the number are boxed; the function value captures both. -/
theorem chunk_in (F : Fence) (m : Nat) (h1 : F.fn 95) (hro : F.round = none) (a : Option Addr) (n c : Nat) (w : World) :
    CallsIn F m Try.prog 95 #[.slice a n c, .int .i64 256] w fun e w' => e = .returned (.func (.func 117) #[] #[.pointer (some ⟨w.heap.size, 0, none⟩), .pointer (some ⟨w.heap.size + 1, 0, none⟩)]) ∧ w' = (w.alloc (.cells #[.slice a n c] 27)).alloc (.cells #[.int .i64 256] 3) := by
  refine callsIn_of_wp Try.func95 rfl h1 ?_ hro
  simp only [Try.ntmps95, List.size_toArray, List.length_cons, List.length_nil, Nat.reduceAdd, Nat.reduceSub, Array.replicate_succ, Array.replicate_zero, List.push_toArray, List.append_toArray, List.nil_append, List.cons_append]
  gi_wp2
  go_ret
  exact ⟨by simp, rfl⟩
/-- What Chunk hands back stops: all pieces, in order. -/
theorem chunk_stops (F : Fence) (m : Nat) (h1 : F.fn 117) (hro : F.round = none) (hm : 1 ≤ m) (Sx Nx k5 N gb c mm : Nat) (hc : 256 * mm ≤ c) (hl : mm ≤ 1000) (hx1 : Sx < N) (hx2 : Sx ≠ k5) (hx3 : Nx < N) (hx4 : Nx ≠ k5) (w : World) (hN : N ≤ w.heap.size)
    (hBs : w.cell? ⟨Sx, 0, none⟩ = some (.slice (some ⟨gb, 0, none⟩) (256 * mm) c)) (hBn : w.cell? ⟨Nx, 0, none⟩ = some (.int .i64 256)) :
    SeqStopsK F m Try.prog 117 #[.pointer (some ⟨Sx, 0, none⟩), .pointer (some ⟨Nx, 0, none⟩)] (fun x : Nat => #[Value.slice (some ⟨gb, 256 * x, none⟩) 256 256]) (KX k5 N) (fun ys => ys = upto id mm)
      (fun pre => ∃ k, k ≤ mm ∧ pre = upto id k) mm w := fun l J Jx W hW hJ _ hY h0 =>
  chunk1_in F m h1 hro hm l Sx Nx k5 N gb c mm hc hl hx1 hx2 hx3 hx4 J Jx hY W ((hW.cell (p := ⟨Sx, 0, none⟩) (show Sx < w.heap.size by omega)).trans hBs) ((hW.cell (p := ⟨Nx, 0, none⟩) (show Nx < w.heap.size by omega)).trans hBn) hJ h0
end Go.Proofs.Ytbjfklgmbeaaoaa
