/- Bytes that grow: nothing else is changed; the document's put, so told. -/
import Derived.Test.YtbjfklgmbeaaoaaKP
set_option linter.unusedVariables false
set_option linter.unusedSimpArgs false
namespace Go.Proofs.Ytbjfklgmbeaaoaa
open Go.RowKit

/-- From M on, only the bytes that began at A0 were written; they are at A now. -/
structure GwS (M : World) (A0 A : Option Addr) (W : World) : Prop where
  os : W.os = M.os
  tape : W.tape = M.tape
  output : W.output = M.output
  size : M.heap.size ≤ W.heap.size
  block : ∀ k, k < M.heap.size → A0 ≠ some ⟨k, 0, none⟩ → W.heap[k]? = M.heap[k]?
  at_ : A = A0 ∨ ∀ k, A = some ⟨k, 0, none⟩ → M.heap.size ≤ k
theorem GwS.refl (M : World) (A : Option Addr) : GwS M A A M := ⟨rfl, rfl, rfl, Nat.le_refl _, fun _ _ _ => rfl, .inl rfl⟩
theorem GwS.step {M W W1 : World} {A0 A : Option Addr} (h : GwS M A0 A W) (hB : Below W.heap.size W W1) : GwS M A0 A W1 :=
  ⟨hB.os.trans h.os, hB.tape.trans h.tape, hB.output.trans h.output, Nat.le_trans h.size hB.size, fun k hk hne => (hB.block k (Nat.lt_of_lt_of_le hk h.size)).trans (h.block k hk hne), h.at_⟩
theorem GwS.trans {M W W1 : World} {A0 A A1 : Option Addr} (h : GwS M A0 A W) (k : GwS W A A1 W1) : GwS M A0 A1 W1 := by
  refine ⟨k.os.trans h.os, k.tape.trans h.tape, k.output.trans h.output, Nat.le_trans h.size k.size, fun i hi hne => (k.block i (Nat.lt_of_lt_of_le hi h.size) (fun e => ?_)).trans (h.block i hi hne), ?_⟩
  · rcases h.at_ with e2 | e2
    · exact hne (by rw [← e2, e])
    · have := e2 i e; omega
  · rcases k.at_ with e2 | e2
    · rw [e2]; exact h.at_
    · exact .inr (fun i e => Nat.le_trans h.size (e2 i e))
theorem GwS.row {M W : World} {A0 A : Option Addr} (h : GwS M A0 A W) {i : Nat} {o : Obj} (hr : M.heap[i]? = some o) (hne : A0 ≠ some ⟨i, 0, none⟩) : W.heap[i]? = some o := (h.block i (Array.getElem?_eq_some_iff.1 hr).1 hne).trans hr
theorem GwS.below {M W w0 : World} {A0 A : Option Addr} {base : Nat} (h : GwS M A0 A W) (hB : Below base w0 M) (hs : base ≤ w0.heap.size) (hA : ∀ k, A0 = some ⟨k, 0, none⟩ → base ≤ k) : Below base w0 W :=
  ⟨h.os.trans hB.os, h.tape.trans hB.tape, h.output.trans hB.output, Nat.le_trans hB.size h.size, fun i hi => (h.block i (by have := hB.size; omega) (fun e => by have := hA i e; omega)).trans (hB.block i hi)⟩
theorem Ow.addr8 {w : World} {base n c : Nat} {A : Option Addr} {xs : List UInt8} (h : Ow w base A n c xs) : A = none ∨ ∃ g, A = some ⟨g, 0, none⟩ ∧ base ≤ g ∧ g < w.heap.size := by
  rcases h.row.2 with ⟨hv, hn⟩ | ⟨g, cap, cur, hv, hg, hh, _⟩
  · injection hv with h1 _ _
    exact .inl h1
  · injection hv with h1 _ _
    exact .inr ⟨g, h1, hg, (Array.getElem?_eq_some_iff.1 hh).1⟩
theorem Ow.base8 {w : World} {base n c : Nat} {A : Option Addr} {xs : List UInt8} (h : Ow w base A n c xs) : ∀ k, A = some ⟨k, 0, none⟩ → base ≤ k := fun k e => by
  rcases h.addr8 with rfl | ⟨g, rfl, hg, _⟩
  · cases e
  · injection e with e; injection e with e; omega
theorem wpl_g8 {ops : Array Oper} {rest : List Oper} {o : Oper} {a : Act} {Q : Exit → Act → World → Prop} {M W : World} {A0 : Option Addr} (base : Nat) (hgd : o.guard = none) (s x : Operand)
    (ho : o.op = .call { callee := .builtin .append, args := #[s, x], argTypes := #[27, 27] })
    (A1 : Option Addr) (n c1 : Nat) (xs : List UInt8) (A : Option Addr) (m c : Nat) (ys : List UInt8) (N : Nat) (zs : List UInt8) (hs : a.eval s = .slice A1 n c1) (hx : a.eval x = .slice A m c)
    (HO : Ow W base A1 n c1 xs) (HR : Bs W A m c ys) (hbase : base ≤ W.heap.size) (hN : n + m = N) (h0 : 0 < N) (hl : N ≤ 140737488355328) (hz : xs ++ ys = zs) (HG : GwS M A0 A1 W)
    (h : ∀ A2 c2 w1, Aside0 (Ow w1 base A2 N c2 zs) → Aside0 (GwS M A0 A2 w1) → wpList Try.prog ops Q rest (a.put o.dst (.slice A2 N c2)) w1) :
    wpList Try.prog ops Q (o :: rest) a W := by
  subst hN
  subst hz
  refine wpl_app8 (w0 := W) base hgd s x ho A1 n c1 xs A m c ys hs hx HO HR (Below.refl _ _) hbase hl fun A2 c2 w1 hO hB hg hat => h A2 c2 w1 ⟨hO⟩ ⟨HG.trans ⟨hg.os, hg.tape, hg.output, hg.size, fun j hj hne => hg.block j hj ?_, ?_⟩⟩
  · rcases HO.addr8 with rfl | ⟨q, rfl, _⟩
    · intro e
      cases e
    · intro e
      simp only [Value.ownBlock, Option.some.injEq] at e
      exact hne (by rw [e])
  · obtain ⟨q2, rfl, _⟩ := hO.head h0
    rcases hat with e | e
    · rcases HO.addr8 with rfl | ⟨q, rfl, _⟩
      · cases e
      · simp only [Value.ownBlock, Option.some.injEq] at e
        exact .inl (by rw [e])
    · simp only [Value.ownBlock, Option.some.injEq] at e
      refine .inr (fun k e3 => ?_)
      injection e3 with e3; injection e3 with e3; omega
set_option maxHeartbeats 4000000 in
set_option maxRecDepth 100000 in
theorem rput7_grow (base : Nat) (A : Option Addr) (n0 c0 : Nat) (xs : List UInt8) (n : Int) (m : Nat) (w : World) (k3 : 0 ≤ n) (k4 : n ≤ 9223372036854775807) (hm8 : m ≤ 8) (hn0 : n0 ≤ 1000) (hb : base ≤ w.heap.size) (hO0 : Ow w base A n0 c0 xs) :
    Calls Try.prog 77 #[.slice A n0 c0, .int .i64 n, .int .i64 (m : Int)] w fun e w' => ∃ A' c', e = .returned (.slice A' (n0 + m) c') ∧ Ow w' base A' (n0 + m) c' (xs ++ le8 n m) ∧ GwS w A A' w' := by
  have HO0 := Aside0.mk hO0
  clear hO0
  go_enter Try.func77, Try.ntmps77
  go_wp2_with fail
  go_loopg [0, 1, 7] m (fun k v0 v1 v7 wr => ∃ j : Nat, Aside (k + j = m) ∧ v1 = .int .i64 (n / 256 ^ j) ∧ v7 = .int .i64 (j : Int) ∧ ∃ A7 c7, v0 = .slice A7 (n0 + j) c7 ∧ Aside0 (Ow wr base A7 (n0 + j) c7 (xs ++ le8 n j)) ∧ Aside0 (GwS w A A7 wr))
  case atStart => exact ⟨0, rfl, by simp, rfl, A, c0, rfl, ⟨by rw [le8, List.append_nil]; exact HO0.out⟩, ⟨GwS.refl _ _⟩⟩
  case round =>
    obtain ⟨j, hk, rfl, rfl, A7, c7, rfl, hO, hB⟩ := hrel
    have hjb : j ≤ m := by have := hk.out; omega
    by_cases hlt : j < m
    · have hjn : (j : Int) < (m : Int) := by omega
      obtain ⟨q0, q1⟩ := div_pow_bound (n := n) k3 k4 j
      obtain ⟨q, hq⟩ : ∃ q, n / 256 ^ j = q := ⟨_, rfl⟩
      rw [hq] at q0 q1 ⊢
      obtain ⟨y, hy⟩ : ∃ y, UInt8.ofNat (q % 256).toNat = y := ⟨_, rfl⟩
      have hyv : q % 256 = (y.toNat : Int) := by rw [← hy, UInt8.toNat_ofNat']; omega
      have hz : (xs ++ le8 n j) ++ [y] = xs ++ le8 n (j + 1) := by rw [List.append_assoc, ← hy, ← hq]; rfl
      have hq' : n / 256 ^ (j + 1) = q / 256 := by rw [← div_pow_succ, hq]
      have hsz : base ≤ wr.heap.size := Nat.le_trans hb hB.out.size
      have HL := Aside0.mk (Bs.lit wr wr.heap.size rfl #[.int .u8 (q % 256)] 5 (0, 0) 1 1 [y] (by rw [hyv]; rfl) rfl (Nat.le_refl _) (by omega) (by omega))
      have HZ := Aside0.mk (And.intro hz (And.intro hq' hsz))
      clear hy hyv hz hq' hq hsz
      go_wp2_with (at_builtin; (refine wpl_g8 (M := w) (A0 := A) base rfl _ _ rfl _ (n0 + j) c7 (xs ++ le8 n j) _ 1 1 [y] (n0 + (j + 1)) (xs ++ le8 n (j + 1)) rfl rfl (hO.out.alloc _) HL.out (by simp; exact Nat.le_succ_of_le HZ.out.2.2) (by omega) (by omega) (by omega) HZ.out.1 (hB.out.step ((Below.refl _ wr).alloc (Nat.le_refl _) _)) ?_); intro A8 c8 w8 hO8 hB8)
      go_roundg (m - (j + 1))
      case measure => have := hk.out; omega
      case rel => exact ⟨j + 1, by have := hk.out; exact (show m - (j + 1) + (j + 1) = m by omega), by rw [HZ.out.2.1], by go_num, A8, c8, rfl, hO8, hB8⟩
    · obtain rfl : j = m := by omega
      go_wp2_with fail
      go_ret
      exact ⟨A7, c7, rfl, hO.out, hB.out⟩


end Go.Proofs.Ytbjfklgmbeaaoaa
