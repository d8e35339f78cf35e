/- The walk of a disk's Grow. -/
import Derived.Test.YtcegphnhohpegaaD2
set_option linter.unusedVariables false
set_option linter.unusedSimpArgs false
namespace Go.Proofs.Ytcegphnhohpegaa
open Go.RowKit

def z64 : Array Value := (u8v (List.replicate 64 0)).toArray
set_option maxRecDepth 100000 in
theorem info54 : (Try.prog.info? 54).map (fun i => (i.zero, i.size, i.bytes)) = some (some (.agg z64), 64, 64) := by kernel_rfl
theorem lit_range (w : World) (C : Array Value) (T : TypeId) (vs : List Value) (hC : C = vs.toArray) : (w.alloc (.cells C T)).rangeAt w.heap.size 0 vs := by
  subst hC
  intro j v hv
  rw [cell_of_row _ _ _ _ _ _ (heap_alloc_new w _), Nat.zero_add]
  simpa using hv
def GrowQ (w : World) (base g n : Nat) (A B : Option Addr) (m e : Nat) (d : DV) (k : Int) (w' : World) : Prop := ∃ A1 c1, DM w' base g A1 (n + (k.toNat - n)) c1 B m e { d with l := d.l ++ List.replicate (64 * (k.toNat - n)) 0 } ∧ Fr g A B w w' ∧ New w A A1
set_option maxHeartbeats 4000000 in
set_option maxRecDepth 100000 in
theorem grow_any (base g : Nat) (A : Option Addr) (n c : Nat) (B : Option Addr) (m e : Nat) (d : DV) (k : Int) (w : World) (h : DM w base g A n c B m e d) (hd : d.down = false) (hk : k ≤ d.limit) (hk2 : k ≤ 65536) :
    Calls Try.prog 23 #[.pointer (some ⟨g, 0, none⟩), .int .i64 k] w fun e' w' => e' = .returned (.int .i64 0) ∧ GrowQ w base g n A B m e d k w' := by
  obtain ⟨c0, c1, c2, c3, c4, c5⟩ := row6_cells h.row
  rw [hd] at c5
  clear hd
  have d1 : decide (d.limit < k) = false := decide_eq_false (by omega)
  have HD := Aside0.mk h
  have hl0 := h.sl.lim
  go_enter Try.func23, Try.ntmps23
  go_wp2_with fail
  clear c0 c1 c2 c3 c4 c5 d1 h
  go_loopg [] (k.toNat - n) (fun gk wr => Aside0 (∃ A1 n1 c1 j, gk = k.toNat - n1 ∧ n1 = n + j ∧ (n1 : Int) ≤ max (n : Int) k ∧ DM wr base g A1 n1 c1 B m e { d with l := d.l ++ List.replicate (64 * j) 0 } ∧ Fr g A B w wr ∧ New w A A1))
  case atStart => exact ⟨⟨A, n, c, 0, rfl, rfl, by omega, by simpa using HD.out, Fr.refl _ _ _ _, .inl rfl⟩⟩
  case round =>
    obtain ⟨A1, n1, cc, j, hgk, hn, hm, hD, hB⟩ := hrel.out
    obtain ⟨c0, c1, c2, c3, c4, c5⟩ := row6_cells hD.row
    have ff := fun j => Go.Joins.unfrozen_of_block hD.row j
    have HM := Aside0.mk (And.intro hD hB)
    have HN := Aside0.mk (And.intro hgk (And.intro hn hm))
    have hlo := hD.lo
    have hgs := (Array.getElem?_eq_some_iff.1 hD.row).1
    clear hrel hD hB HD hgk hn hm
    by_cases hlt : (n1 : Int) < k
    · have d2 : decide ((n1 : Int) < k) = true := decide_eq_true hlt
      go_wp2_with (at_builtin; refine wpl_oc base rfl _ _ 49 54 (.agg z64) 64 64 rfl Try.underlying49 info54 rfl (by omega) (by omega) (by omega) A1 n1 _ wr.heap.size (u8v (d.l ++ List.replicate (64 * j) 0)) (u8v (List.replicate 64 0)) rfl rfl (HM.out.1.sl.below ((Below.refl _ wr).alloc (Nat.le_refl _) _)) (by rw [u8v_length, List.length_replicate]) (lit_range wr _ _ _ (by kernel_rfl)) (u8v_one _) (by simp; omega) (by omega) ?_; intro A2 c2 w1 hO hG hA; (have HM2 := Aside0.mk (HM.out.1.grow hG.out hO.out hA.out)); (obtain ⟨e0, e1, e2, e3, e4, e5⟩ := row6_cells (HM.out.1.grown hG.out)); (have ef := fun j => Go.Joins.unfrozen_of_block (HM.out.1.grown hG.out) j))
      go_roundg (k.toNat - (n1 + 1))
      case measure => have := HN.out.1; omega
      case rel =>
        refine ⟨⟨A2, n1 + 1, c2, j + 1, rfl, by have := HN.out.2.1; omega, by omega, ?_, ?_, ?_⟩⟩
        rotate_left
        · exact (((HM.out.2.1.trans (Fr.of_below ((Below.refl _ wr).alloc (Nat.le_refl _) _)) HM.out.2.2 (.inl rfl)).trans (Fr.of_grw hG.out) HM.out.2.2 (.inl rfl)).trans (Fr.of_only ((OnlyB.refl g w1).set 1 _)) (A1 := A2) (HM.out.2.2.trans (hA.out.elim (fun q => .inl q) (fun q => .inr fun i e => by rw [q] at e; injection e with e; injection e with e; rw [← e]; exact Nat.le_refl _)) (Nat.le_trans HM.out.2.1.size (by simp))) (.inl rfl))
        · exact HM.out.2.2.trans (w1 := wr) (hA.out.elim (fun q => .inl q) (fun q => .inr fun i e => by rw [q] at e; injection e with e; injection e with e; rw [← e]; simp)) HM.out.2.1.size
        have := HM2.out
        rw [show 64 * (j + 1) = 64 * j + 64 by omega, ← List.replicate_append_replicate, ← List.append_assoc]
        exact this
    · have d2 : decide ((n1 : Int) < k) = false := decide_eq_false hlt
      go_wp2_with fail
      go_ret
      obtain ⟨q1, q2, q3⟩ := HN.out
      have hj : j = k.toNat - n := by omega
      refine ⟨rfl, A1, cc, ?_, HM.out.2.1, HM.out.2.2⟩
      rw [← hj, ← q2]
      exact HM.out.1
end Go.Proofs.Ytcegphnhohpegaa
