/- The document's disk: count; Do where it arms and where it syncs. -/
import Derived.Test.YthhalmjapiempaaS3
set_option linter.unusedVariables false
set_option linter.unusedSimpArgs false
namespace Go.Proofs.Ythhalmjapiempaa
open Go.RowKit

theorem heap_two (w : World) (a b : Obj) : ((w.alloc a).alloc b).heap[w.heap.size + 1]? = some b := by
  have := heap_alloc_new (w.alloc a) b
  rwa [show (w.alloc a).heap.size = w.heap.size + 1 by simp] at this
theorem below_two (w : World) (a b : Obj) : Below w.heap.size w ((w.alloc a).alloc b) := ((Below.refl w.heap.size w).alloc (Nat.le_refl _) a).alloc (by simp) b
/-- How such a disk's op ends. -/
def RDo (d : DV) (err : Int) (w : World) (e' : Ending) (w' : World) : Prop := ∃ A n c B m e hs, e' = .returned (.tuple #[.agg (rv d A n c B m e), .slice none 0 0, .int .i64 err]) ∧ RM w' A n c B m e hs d ∧ Below w.heap.size w w'
theorem RM.turn {W : World} {A : Option Addr} {n c : Nat} {B : Option Addr} {m e : Nat} {hs : List (Int × Option Addr × Nat × Nat)} {d d1 : DV} (h : RM W A n c B m e hs d) (hl : d1.l = d.l) (hr : d1.row = d.row) : RM W A n c B m e hs d1 :=
  ⟨by rw [hl]; exact h.bl, h.rr, h.hl, by rw [hr]; exact h.len, by rw [hr]; exact h.each⟩
set_option maxHeartbeats 8000000 in
set_option maxRecDepth 100000 in
theorem rcount_any (A : Option Addr) (n c : Nat) (B : Option Addr) (m e : Nat) (d : DV) (w : World) (hd : d.down = false) (hf : -1 ≤ d.fuse ∧ d.fuse ≤ 9223372036854775807) (ho : 0 ≤ d.ops ∧ d.ops ≤ 1000000) :
    Calls Try.prog 56 #[.agg #[.int .i64 d.limit, .slice A n c, .slice B m e, .int .i64 d.ops, .int .i64 d.fuse, .bool false]] w fun e' w' => e' = .returned (.agg #[.int .i64 d.limit, .slice A n c, .slice B m e, .int .i64 (opD d).ops, .int .i64 (opD d).fuse, .bool (opD d).down]) ∧ Below w.heap.size w w' := by
  obtain ⟨li, l, row, ops, fu, dn⟩ := d
  simp only at hd hf ho
  have iw1 : IntKind.i64.wrap (ops + 1) = ops + 1 := IntWalk.i64_in _ (by omega)
  have iw2 : IntKind.i64.wrap (fu - 1) = fu - 1 := IntWalk.i64_in _ (by omega)
  rcases (show fu = 0 ∨ 0 < fu ∨ fu = -1 by omega) with q1 | q1 | q1
  · have g1 : (fu == 0) = true := beq_iff_eq.2 q1
    have g2 : decide (0 ≤ fu) = true := decide_eq_true (by omega)
    have HO := Aside0.mk (show (opD ⟨li, l, row, ops, fu, dn⟩).fuse = fu - 1 ∧ (opD ⟨li, l, row, ops, fu, dn⟩).down = true from by unfold opD; simp only [g1]; exact ⟨by split <;> omega, trivial⟩)
    clear q1
    show Calls Try.prog 56 #[.agg #[.int .i64 li, .slice A n c, .slice B m e, .int .i64 ops, .int .i64 fu, .bool false]] w _
    go_enter Try.func56, Try.ntmps56
    go_wp2_with fail
    have hD := dload (heap_two w (.cells #[.int .i64 li, .slice A n c, .slice B m e, .int .i64 (ops + 1), .int .i64 (fu - 1), .bool true] 47) (.cells #[.int .i64 li, .slice A n c, .slice B m e, .int .i64 (ops + 1), .int .i64 (fu - 1), .bool true] 47))
    refine bodyPost_ret (v := .agg #[.int .i64 li, .slice A n c, .slice B m e, .int .i64 (ops + 1), .int .i64 (fu - 1), .bool true]) (by simp [results, Try.results56, asAddr, hD]) rfl ?_
    rw [HO.out.1, HO.out.2]
    exact ⟨rfl, below_two _ _ _⟩
  · have g1 : (fu == 0) = false := beq_eq_false_iff_ne.2 (by omega)
    have g2 : decide (0 ≤ fu) = true := decide_eq_true (by omega)
    have HO := Aside0.mk (show (opD ⟨li, l, row, ops, fu, dn⟩).fuse = fu - 1 ∧ (opD ⟨li, l, row, ops, fu, dn⟩).down = false from by unfold opD; simp only [g1]; exact ⟨by split <;> omega, trivial⟩)
    clear q1
    show Calls Try.prog 56 #[.agg #[.int .i64 li, .slice A n c, .slice B m e, .int .i64 ops, .int .i64 fu, .bool false]] w _
    go_enter Try.func56, Try.ntmps56
    go_wp2_with fail
    have hD := dload (heap_two w (.cells #[.int .i64 li, .slice A n c, .slice B m e, .int .i64 (ops + 1), .int .i64 (fu - 1), .bool false] 47) (.cells #[.int .i64 li, .slice A n c, .slice B m e, .int .i64 (ops + 1), .int .i64 (fu - 1), .bool false] 47))
    refine bodyPost_ret (v := .agg #[.int .i64 li, .slice A n c, .slice B m e, .int .i64 (ops + 1), .int .i64 (fu - 1), .bool false]) (by simp [results, Try.results56, asAddr, hD]) rfl ?_
    rw [HO.out.1, HO.out.2]
    exact ⟨rfl, below_two _ _ _⟩
  · have g1 : (fu == 0) = false := beq_eq_false_iff_ne.2 (by omega)
    have g2 : decide (0 ≤ fu) = false := decide_eq_false (by omega)
    have HO := Aside0.mk (show (opD ⟨li, l, row, ops, fu, dn⟩).fuse = fu ∧ (opD ⟨li, l, row, ops, fu, dn⟩).down = false from by unfold opD; simp only [g1]; exact ⟨by split <;> omega, trivial⟩)
    clear q1
    show Calls Try.prog 56 #[.agg #[.int .i64 li, .slice A n c, .slice B m e, .int .i64 ops, .int .i64 fu, .bool false]] w _
    go_enter Try.func56, Try.ntmps56
    go_wp2_with fail
    have hD := dload (heap_two w (.cells #[.int .i64 li, .slice A n c, .slice B m e, .int .i64 (ops + 1), .int .i64 (fu), .bool false] 47) (.cells #[.int .i64 li, .slice A n c, .slice B m e, .int .i64 (ops + 1), .int .i64 (fu), .bool false] 47))
    refine bodyPost_ret (v := .agg #[.int .i64 li, .slice A n c, .slice B m e, .int .i64 (ops + 1), .int .i64 (fu), .bool false]) (by simp [results, Try.results56, asAddr, hD]) rfl ?_
    rw [HO.out.1, HO.out.2]
    exact ⟨rfl, below_two _ _ _⟩
end Go.Proofs.Ythhalmjapiempaa
