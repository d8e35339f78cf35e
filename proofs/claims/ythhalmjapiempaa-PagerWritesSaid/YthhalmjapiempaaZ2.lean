/- The walks of item's small functions: what a generation has. The walks of item's small functions, over what a generation has. The walks of item's functions over an item: Far, Long, KidRoom, Room, Right, Of. bytes.Compare, by the model's own entry. The walks of item.Of and item.Same. The walks of the reference's functions of layer 5. -/
import Derived.Test.YthhalmjapiempaaZ1
import Derived.Lib.BytesEntry
import Derived.Lib.Bytealg
import Derived.Laws.Externs
set_option linter.unusedVariables false
set_option linter.unusedSimpArgs false
namespace Go.Proofs.Ythhalmjapiempaa
open Go.RowKit

theorem beq_f {a b : Int} (h : ¬ a = b) : (a == b) = false := beq_eq_false_iff_ne.mpr h
def gen3 (g a b c : Int) : Int := if g = 1 then a else if g = 2 then b else if g = 3 then c else 0
def genB (g : Int) : Bool := decide (1 ≤ g ∧ g ≤ 3)
def mkI (g : Int) : Int := gen3 g 16 20 24
def mvI (g : Int) : Int := gen3 g 400 800 1600
def iwI (g : Int) : Int := gen3 g 4 8 8
def hdI (g : Int) : Int := gen3 g 8 16 16
theorem gen_cases (g : Int) : g = 1 ∨ g = 2 ∨ g = 3 ∨ (¬ (1 ≤ g ∧ g ≤ 3)) := by omega
theorem gen3_none {g a b c : Int} (h : ¬ (1 ≤ g ∧ g ≤ 3)) : gen3 g a b c = 0 := by
  unfold gen3
  rw [if_neg (by omega), if_neg (by omega), if_neg (by omega)]

set_option maxHeartbeats 1000000 in
theorem gen_any (g : Int) (w : World) : Calls Try.prog 99 #[.int .i64 g] w fun e w' => e = .returned (.bool (genB g)) ∧ w = w' := by
  by_cases h1 : 1 ≤ g
  · have h1' : decide (1 ≤ g) = true := decide_eq_true h1
    go_enter Try.func99, Try.ntmps99
    go_wp2
    go_ret
    exact ⟨ret_bool (by unfold genB; apply decide_eq_decide.2; omega), rfl⟩
  · have h1' : decide (1 ≤ g) = false := decide_eq_false h1
    go_enter Try.func99, Try.ntmps99
    go_wp2
    go_ret
    exact ⟨ret_bool (by unfold genB; symm; apply decide_eq_false; omega), rfl⟩

theorem itix1 (W : World) : (Instr.index 163 (.agg #[.int .i64 16, .int .i64 400, .int .i64 4, .int .i64 8, .int .i64 20, .int .i64 800, .int .i64 8, .int .i64 16, .int .i64 24, .int .i64 1600, .int .i64 8, .int .i64 16]) (.int .i64 0)).run Try.prog W = .ok (.agg #[.int .i64 16, .int .i64 400, .int .i64 4, .int .i64 8]) W := by kernel_rfl
theorem itix2 (W : World) : (Instr.index 163 (.agg #[.int .i64 16, .int .i64 400, .int .i64 4, .int .i64 8, .int .i64 20, .int .i64 800, .int .i64 8, .int .i64 16, .int .i64 24, .int .i64 1600, .int .i64 8, .int .i64 16]) (.int .i64 1)).run Try.prog W = .ok (.agg #[.int .i64 20, .int .i64 800, .int .i64 8, .int .i64 16]) W := by kernel_rfl
theorem itix3 (W : World) : (Instr.index 163 (.agg #[.int .i64 16, .int .i64 400, .int .i64 4, .int .i64 8, .int .i64 20, .int .i64 800, .int .i64 8, .int .i64 16, .int .i64 24, .int .i64 1600, .int .i64 8, .int .i64 16]) (.int .i64 2)).run Try.prog W = .ok (.agg #[.int .i64 24, .int .i64 1600, .int .i64 8, .int .i64 16]) W := by kernel_rfl
set_option maxHeartbeats 1000000 in
theorem itof_any (g : Int) (w : World) : Calls Try.prog 91 #[.int .i64 g] w fun e w' => e = .returned (.agg #[.int .i64 (mkI g), .int .i64 (mvI g), .int .i64 (iwI g), .int .i64 (hdI g)]) ∧ Below w.heap.size w w' := by
  rcases gen_cases g with rfl | rfl | rfl | h
  · have hg : genB 1 = true := rfl
    have hix := fun W => itix1 W
    go_enter Try.func91, Try.ntmps91
    go_wp2_with (go_at_call 99; refine (gen_any _ _).mono ?_; rintro e w1 ⟨rfl, rfl⟩; rw [hg])
    refine bodyPost_ret (v := .agg #[.int .i64 16, .int .i64 400, .int .i64 4, .int .i64 8]) (by simp [results, Try.results91, go_sem]) rfl ⟨rfl, (Below.refl _ _).alloc (Nat.le_refl _) _⟩
  · have hg : genB 2 = true := rfl
    have hix := fun W => itix2 W
    go_enter Try.func91, Try.ntmps91
    go_wp2_with (go_at_call 99; refine (gen_any _ _).mono ?_; rintro e w1 ⟨rfl, rfl⟩; rw [hg])
    refine bodyPost_ret (v := .agg #[.int .i64 20, .int .i64 800, .int .i64 8, .int .i64 16]) (by simp [results, Try.results91, go_sem]) rfl ⟨rfl, (Below.refl _ _).alloc (Nat.le_refl _) _⟩
  · have hg : genB 3 = true := rfl
    have hix := fun W => itix3 W
    go_enter Try.func91, Try.ntmps91
    go_wp2_with (go_at_call 99; refine (gen_any _ _).mono ?_; rintro e w1 ⟨rfl, rfl⟩; rw [hg])
    refine bodyPost_ret (v := .agg #[.int .i64 24, .int .i64 1600, .int .i64 8, .int .i64 16]) (by simp [results, Try.results91, go_sem]) rfl ⟨rfl, (Below.refl _ _).alloc (Nat.le_refl _) _⟩
  · have hg : genB g = false := by unfold genB; exact decide_eq_false h
    have e1 : mkI g = 0 := gen3_none h
    have e2 : mvI g = 0 := gen3_none h
    have e3 : iwI g = 0 := gen3_none h
    have e4 : hdI g = 0 := gen3_none h
    rw [e1, e2, e3, e4]
    clear e1 e2 e3 e4
    go_enter Try.func91, Try.ntmps91
    go_wp2_with (go_at_call 99; refine (gen_any _ _).mono ?_; rintro e w1 ⟨rfl, rfl⟩; rw [hg])
    refine bodyPost_ret (v := .agg #[.int .i64 0, .int .i64 0, .int .i64 0, .int .i64 0]) (by simp [results, Try.results91, go_sem]) rfl ⟨rfl, (Below.refl _ _).alloc (Nat.le_refl _) _⟩

end Go.Proofs.Ythhalmjapiempaa

set_option linter.unusedVariables false
set_option linter.unusedSimpArgs false
namespace Go.Proofs.Ythhalmjapiempaa
open Go.RowKit

theorem itf (W : World) (a b c d : Int) : (Instr.field 154 (.agg #[.int .i64 a, .int .i64 b, .int .i64 c, .int .i64 d]) 0).run Try.prog W = .ok (.int .i64 a) W ∧
    (Instr.field 154 (.agg #[.int .i64 a, .int .i64 b, .int .i64 c, .int .i64 d]) 1).run Try.prog W = .ok (.int .i64 b) W ∧
    (Instr.field 154 (.agg #[.int .i64 a, .int .i64 b, .int .i64 c, .int .i64 d]) 2).run Try.prog W = .ok (.int .i64 c) W ∧
    (Instr.field 154 (.agg #[.int .i64 a, .int .i64 b, .int .i64 c, .int .i64 d]) 3).run Try.prog W = .ok (.int .i64 d) W := ⟨by kernel_rfl, by kernel_rfl, by kernel_rfl, by kernel_rfl⟩

set_option maxHeartbeats 1000000 in
set_option maxRecDepth 100000 in
theorem maxKey_any (g : Int) (w : World) : Calls Try.prog 101 #[.int .i64 g] w fun e w' => e = .returned (.int .i64 (mkI g)) ∧ Below w.heap.size w w' := by
  have hf := fun W a b c d => itf W a b c d
  go_enter Try.func101, Try.ntmps101
  go_wp2_with (go_at_call 91; refine (itof_any _ _).mono ?_; rintro e w1 ⟨rfl, hB⟩)
  go_ret
  exact ⟨rfl, hB⟩
set_option maxHeartbeats 1000000 in
set_option maxRecDepth 100000 in
theorem idWidth_any (g : Int) (w : World) : Calls Try.prog 69 #[.int .i64 g] w fun e w' => e = .returned (.int .i64 (iwI g)) ∧ Below w.heap.size w w' := by
  have hf := fun W a b c d => itf W a b c d
  go_enter Try.func69, Try.ntmps69
  go_wp2_with (go_at_call 91; refine (itof_any _ _).mono ?_; rintro e w1 ⟨rfl, hB⟩)
  go_ret
  exact ⟨rfl, hB⟩
end Go.Proofs.Ythhalmjapiempaa

set_option linter.unusedVariables false
set_option linter.unusedSimpArgs false
namespace Go.Proofs.Ythhalmjapiempaa
open Go.RowKit

end Go.Proofs.Ythhalmjapiempaa

set_option linter.unusedVariables false
set_option linter.unusedSimpArgs false
namespace Go.Proofs.Ythhalmjapiempaa
open Go.RowKit

theorem Bs.bytesOf {w : World} {A : Option Addr} {n c : Nat} {xs : List UInt8} (h : Bs w A n c xs) : (Extern.Bytes.bytesOf (.slice A n c)).run Try.prog w = .ok (strB xs) w := by
  have hn := h.len
  rcases A with _ | ad
  · have h0 : n = 0 := by
      rcases Nat.eq_zero_or_pos n with h0 | h0
      · exact h0
      · obtain ⟨ad, h', _⟩ := h.cells h0
        cases h'
    subst h0
    obtain rfl : xs = [] := List.eq_nil_of_length_eq_zero hn
    rfl
  · have := Lib.run_loadBytesX (P := Try.prog) w (xs.map fun x => (x.toNat : Int)) ad .empty (fun j x hj => by
      rw [List.getElem?_map] at hj
      cases hx : xs[j]? with
      | none => rw [hx] at hj; cases hj
      | some y =>
        rw [hx] at hj
        injection hj with hj
        obtain ⟨hl, he⟩ := List.getElem?_eq_some_iff.1 hx
        obtain ⟨ad', he', hc⟩ := h.cells (by omega)
        injection he' with he'
        subst he'
        rw [hc j (by omega)]
        simp [b8, List.getD_eq_getElem?_getD, hx, hj])
    rw [List.length_map, hn] at this
    have e : Lib.bytesOf (xs.map fun x => (x.toNat : Int)) = xs := by
      unfold Lib.bytesOf
      rw [List.map_map]
      exact (List.map_congr_left (fun x _ => by simp)).trans (List.map_id _)
    rw [e] at this
    refine Eq.trans this ?_
    congr 1
    unfold strB
    apply ByteArray.ext
    simp [ByteArray.empty, ByteArray.emptyWithCapacity]
    rfl
/-! How two rows of bytes stand: the plain law -/
end Go.Proofs.Ythhalmjapiempaa

set_option linter.unusedVariables false
set_option linter.unusedSimpArgs false
namespace Go.Proofs.Ythhalmjapiempaa
open Go.RowKit

end Go.Proofs.Ythhalmjapiempaa

set_option linter.unusedVariables false
set_option linter.unusedSimpArgs false
namespace Go.Proofs.Ythhalmjapiempaa
open Go.RowKit

set_option maxHeartbeats 1000000 in
theorem trait_any (g a b c : Int) (w : World) : Calls Try.prog 86 #[.int .i64 g, .int .i64 a, .int .i64 b, .int .i64 c] w fun e w' => e = .returned (.int .i64 (gen3 g a b c)) ∧ w = w' := by
  by_cases h1 : g = 1
  · subst h1
    go_enter Try.func86, Try.ntmps86
    go_wp2
    go_ret
    exact ⟨rfl, rfl⟩
  have e1 : (g == 1) = false := beq_f h1
  by_cases h2 : g = 2
  · subst h2
    go_enter Try.func86, Try.ntmps86
    go_wp2
    go_ret
    exact ⟨rfl, rfl⟩
  have e2 : (g == 2) = false := beq_f h2
  by_cases h3 : g = 3
  · subst h3
    go_enter Try.func86, Try.ntmps86
    go_wp2
    go_ret
    exact ⟨rfl, rfl⟩
  have e3 : (g == 3) = false := beq_f h3
  have hv := Aside0.mk (show gen3 g a b c = 0 by unfold gen3; rw [if_neg h1, if_neg h2, if_neg h3])
  clear h1 h2 h3
  go_enter Try.func86, Try.ntmps86
  go_wp2
  go_ret
  exact ⟨ret_int hv.out.symm, rfl⟩
set_option maxHeartbeats 1000000 in
theorem rMaxKey_any (g : Int) (w : World) : Calls Try.prog 61 #[.int .i64 g] w fun e w' => e = .returned (.int .i64 (mkI g)) ∧ w = w' := by
  go_enter Try.func61, Try.ntmps61
  go_wp2_with (go_at_call 86; refine (trait_any _ _ _ _ _).mono ?_; rintro e w1 ⟨rfl, rfl⟩)
  go_ret
  exact ⟨rfl, rfl⟩
set_option maxHeartbeats 1000000 in
theorem rIdWidth_any (g : Int) (w : World) : Calls Try.prog 79 #[.int .i64 g] w fun e w' => e = .returned (.int .i64 (iwI g)) ∧ w = w' := by
  go_enter Try.func79, Try.ntmps79
  go_wp2_with (go_at_call 86; refine (trait_any _ _ _ _ _).mono ?_; rintro e w1 ⟨rfl, rfl⟩)
  go_ret
  exact ⟨rfl, rfl⟩
end Go.Proofs.Ythhalmjapiempaa
