/- The walks of item's small functions: what a generation has. The walks of item's small functions, over what a generation has. The walks of item's functions over an item: Far, Long, KidRoom, Room, Right, Of. bytes.Compare, by the model's own entry. The walks of item.Of and item.Same. The walks of the reference's functions of layer 5. The walks of the reference's Room and Same, and of few. -/
import Derived.Test.YtbjfklgmbeaaoaaZ1
import Derived.Lib.BytesEntry
import Derived.Lib.Bytealg
import Derived.Laws.Externs
set_option linter.unusedVariables false
set_option linter.unusedSimpArgs false
namespace Go.Proofs.Ytbjfklgmbeaaoaa
open Go.RowKit

theorem beq_t {a b : Int} (h : a = b) : (a == b) = true := beq_iff_eq.mpr h
theorem beq_f {a b : Int} (h : ¬ a = b) : (a == b) = false := beq_eq_false_iff_ne.mpr h
theorem bne_t {a b : Int} (h : ¬ a = b) : (a != b) = true := bne_iff_ne.mpr h
theorem bne_f {a b : Int} (h : a = b) : (a != b) = false := bne_eq_false_iff_eq.mpr h

def gen3 (g a b c : Int) : Int := if g = 1 then a else if g = 2 then b else if g = 3 then c else 0
def genB (g : Int) : Bool := decide (1 ≤ g ∧ g ≤ 3)
def mkI (g : Int) : Int := gen3 g 16 20 24
def mvI (g : Int) : Int := gen3 g 400 800 1600
def iwI (g : Int) : Int := gen3 g 4 8 8
def hdI (g : Int) : Int := gen3 g 8 16 16
def cpI (g : Int) : Int := gen3 g 248 240 240
theorem gen_cases (g : Int) : g = 1 ∨ g = 2 ∨ g = 3 ∨ (¬ (1 ≤ g ∧ g ≤ 3)) := by omega
theorem gen3_none {g a b c : Int} (h : ¬ (1 ≤ g ∧ g ≤ 3)) : gen3 g a b c = 0 := by
  unfold gen3
  rw [if_neg (by omega), if_neg (by omega), if_neg (by omega)]

set_option maxHeartbeats 1000000 in
theorem gen_any (g : Int) (w : World) : Calls Try.prog 38 #[.int .i64 g] w fun e w' => e = .returned (.bool (genB g)) ∧ w = w' := by
  by_cases h1 : 1 ≤ g
  · have h1' : decide (1 ≤ g) = true := decide_eq_true h1
    go_enter Try.func38, Try.ntmps38
    go_wp2
    go_ret
    exact ⟨ret_bool (by unfold genB; apply decide_eq_decide.2; omega), rfl⟩
  · have h1' : decide (1 ≤ g) = false := decide_eq_false h1
    go_enter Try.func38, Try.ntmps38
    go_wp2
    go_ret
    exact ⟨ret_bool (by unfold genB; symm; apply decide_eq_false; omega), rfl⟩

theorem itix1 (W : World) : (Instr.index 159 (.agg #[.int .i64 16, .int .i64 400, .int .i64 4, .int .i64 8, .int .i64 20, .int .i64 800, .int .i64 8, .int .i64 16, .int .i64 24, .int .i64 1600, .int .i64 8, .int .i64 16]) (.int .i64 0)).run Try.prog W = .ok (.agg #[.int .i64 16, .int .i64 400, .int .i64 4, .int .i64 8]) W := by kernel_rfl
theorem itix2 (W : World) : (Instr.index 159 (.agg #[.int .i64 16, .int .i64 400, .int .i64 4, .int .i64 8, .int .i64 20, .int .i64 800, .int .i64 8, .int .i64 16, .int .i64 24, .int .i64 1600, .int .i64 8, .int .i64 16]) (.int .i64 1)).run Try.prog W = .ok (.agg #[.int .i64 20, .int .i64 800, .int .i64 8, .int .i64 16]) W := by kernel_rfl
theorem itix3 (W : World) : (Instr.index 159 (.agg #[.int .i64 16, .int .i64 400, .int .i64 4, .int .i64 8, .int .i64 20, .int .i64 800, .int .i64 8, .int .i64 16, .int .i64 24, .int .i64 1600, .int .i64 8, .int .i64 16]) (.int .i64 2)).run Try.prog W = .ok (.agg #[.int .i64 24, .int .i64 1600, .int .i64 8, .int .i64 16]) W := by kernel_rfl
set_option maxHeartbeats 1000000 in
theorem itof_any (g : Int) (w : World) : Calls Try.prog 91 #[.int .i64 g] w fun e w' => e = .returned (.agg #[.int .i64 (mkI g), .int .i64 (mvI g), .int .i64 (iwI g), .int .i64 (hdI g)]) ∧ Below w.heap.size w w' := by
  rcases gen_cases g with rfl | rfl | rfl | h
  · have hg : genB 1 = true := rfl
    have hix := fun W => itix1 W
    go_enter Try.func91, Try.ntmps91
    go_wp2_with (go_at_call 38; refine (gen_any _ _).mono ?_; rintro e w1 ⟨rfl, rfl⟩; rw [hg])
    refine bodyPost_ret (v := .agg #[.int .i64 16, .int .i64 400, .int .i64 4, .int .i64 8]) (by simp [results, Try.results91, go_sem]) rfl ⟨rfl, (Below.refl _ _).alloc (Nat.le_refl _) _⟩
  · have hg : genB 2 = true := rfl
    have hix := fun W => itix2 W
    go_enter Try.func91, Try.ntmps91
    go_wp2_with (go_at_call 38; refine (gen_any _ _).mono ?_; rintro e w1 ⟨rfl, rfl⟩; rw [hg])
    refine bodyPost_ret (v := .agg #[.int .i64 20, .int .i64 800, .int .i64 8, .int .i64 16]) (by simp [results, Try.results91, go_sem]) rfl ⟨rfl, (Below.refl _ _).alloc (Nat.le_refl _) _⟩
  · have hg : genB 3 = true := rfl
    have hix := fun W => itix3 W
    go_enter Try.func91, Try.ntmps91
    go_wp2_with (go_at_call 38; refine (gen_any _ _).mono ?_; rintro e w1 ⟨rfl, rfl⟩; rw [hg])
    refine bodyPost_ret (v := .agg #[.int .i64 24, .int .i64 1600, .int .i64 8, .int .i64 16]) (by simp [results, Try.results91, go_sem]) rfl ⟨rfl, (Below.refl _ _).alloc (Nat.le_refl _) _⟩
  · have hg : genB g = false := by unfold genB; exact decide_eq_false h
    have e1 : mkI g = 0 := gen3_none h
    have e2 : mvI g = 0 := gen3_none h
    have e3 : iwI g = 0 := gen3_none h
    have e4 : hdI g = 0 := gen3_none h
    rw [e1, e2, e3, e4]
    clear e1 e2 e3 e4
    go_enter Try.func91, Try.ntmps91
    go_wp2_with (go_at_call 38; refine (gen_any _ _).mono ?_; rintro e w1 ⟨rfl, rfl⟩; rw [hg])
    refine bodyPost_ret (v := .agg #[.int .i64 0, .int .i64 0, .int .i64 0, .int .i64 0]) (by simp [results, Try.results91, go_sem]) rfl ⟨rfl, (Below.refl _ _).alloc (Nat.le_refl _) _⟩

end Go.Proofs.Ytbjfklgmbeaaoaa

set_option linter.unusedVariables false
set_option linter.unusedSimpArgs false
namespace Go.Proofs.Ytbjfklgmbeaaoaa
open Go.RowKit

theorem itf (W : World) (a b c d : Int) : (Instr.field 137 (.agg #[.int .i64 a, .int .i64 b, .int .i64 c, .int .i64 d]) 0).run Try.prog W = .ok (.int .i64 a) W ∧
    (Instr.field 137 (.agg #[.int .i64 a, .int .i64 b, .int .i64 c, .int .i64 d]) 1).run Try.prog W = .ok (.int .i64 b) W ∧
    (Instr.field 137 (.agg #[.int .i64 a, .int .i64 b, .int .i64 c, .int .i64 d]) 2).run Try.prog W = .ok (.int .i64 c) W ∧
    (Instr.field 137 (.agg #[.int .i64 a, .int .i64 b, .int .i64 c, .int .i64 d]) 3).run Try.prog W = .ok (.int .i64 d) W := ⟨by kernel_rfl, by kernel_rfl, by kernel_rfl, by kernel_rfl⟩

set_option maxHeartbeats 1000000 in
set_option maxRecDepth 100000 in
theorem maxKey_any (g : Int) (w : World) : Calls Try.prog 119 #[.int .i64 g] w fun e w' => e = .returned (.int .i64 (mkI g)) ∧ Below w.heap.size w w' := by
  have hf := fun W a b c d => itf W a b c d
  go_enter Try.func119, Try.ntmps119
  go_wp2_with (go_at_call 91; refine (itof_any _ _).mono ?_; rintro e w1 ⟨rfl, hB⟩)
  go_ret
  exact ⟨rfl, hB⟩
set_option maxHeartbeats 1000000 in
set_option maxRecDepth 100000 in
theorem maxValue_any (g : Int) (w : World) : Calls Try.prog 39 #[.int .i64 g] w fun e w' => e = .returned (.int .i64 (mvI g)) ∧ Below w.heap.size w w' := by
  have hf := fun W a b c d => itf W a b c d
  go_enter Try.func39, Try.ntmps39
  go_wp2_with (go_at_call 91; refine (itof_any _ _).mono ?_; rintro e w1 ⟨rfl, hB⟩)
  go_ret
  exact ⟨rfl, hB⟩
set_option maxHeartbeats 1000000 in
set_option maxRecDepth 100000 in
theorem idWidth_any (g : Int) (w : World) : Calls Try.prog 64 #[.int .i64 g] w fun e w' => e = .returned (.int .i64 (iwI g)) ∧ Below w.heap.size w w' := by
  have hf := fun W a b c d => itf W a b c d
  go_enter Try.func64, Try.ntmps64
  go_wp2_with (go_at_call 91; refine (itof_any _ _).mono ?_; rintro e w1 ⟨rfl, hB⟩)
  go_ret
  exact ⟨rfl, hB⟩
set_option maxHeartbeats 1000000 in
set_option maxRecDepth 100000 in
theorem head_any (g : Int) (w : World) : Calls Try.prog 41 #[.int .i64 g] w fun e w' => e = .returned (.int .i64 (hdI g)) ∧ Below w.heap.size w w' := by
  have hf := fun W a b c d => itf W a b c d
  go_enter Try.func41, Try.ntmps41
  go_wp2_with (go_at_call 91; refine (itof_any _ _).mono ?_; rintro e w1 ⟨rfl, hB⟩)
  go_ret
  exact ⟨rfl, hB⟩
theorem gen3_range (g a b c : Int) (ha : 0 ≤ a ∧ a ≤ 2000) (hb : 0 ≤ b ∧ b ≤ 2000) (hc : 0 ≤ c ∧ c ≤ 2000) : 0 ≤ gen3 g a b c ∧ gen3 g a b c ≤ 2000 := by
  unfold gen3
  split
  · exact ha
  · split
    · exact hb
    · split
      · exact hc
      · omega
theorem mk_range (g : Int) : 0 ≤ mkI g ∧ mkI g ≤ 2000 := gen3_range g _ _ _ (by omega) (by omega) (by omega)
theorem mv_range (g : Int) : 0 ≤ mvI g ∧ mvI g ≤ 2000 := gen3_range g _ _ _ (by omega) (by omega) (by omega)
theorem iw_range (g : Int) : 0 ≤ iwI g ∧ iwI g ≤ 2000 := gen3_range g _ _ _ (by omega) (by omega) (by omega)
theorem hd_range (g : Int) : 0 ≤ hdI g ∧ hdI g ≤ 2000 := gen3_range g _ _ _ (by omega) (by omega) (by omega)
theorem cp_hd (g : Int) (h : genB g = true) : 256 - hdI g = cpI g := by
  unfold genB at h
  have h := of_decide_eq_true h
  have : g = 1 ∨ g = 2 ∨ g = 3 := by omega
  rcases this with rfl | rfl | rfl <;> rfl
theorem cp_none (g : Int) (h : genB g = false) : cpI g = 0 := by
  unfold genB at h
  exact gen3_none (of_decide_eq_false h)

set_option maxHeartbeats 1000000 in
theorem cap_any (g : Int) (w : World) : Calls Try.prog 40 #[.int .i64 g] w fun e w' => e = .returned (.int .i64 (cpI g)) ∧ Below w.heap.size w w' := by
  obtain ⟨r0, r1⟩ := hd_range g
  cases hg : genB g with
  | true =>
    have hc := Aside0.mk (cp_hd g hg)
    go_enter Try.func40, Try.ntmps40
    go_wp2_with (first | (go_at_call 38; refine (gen_any _ _).mono ?_; rintro e w1 ⟨rfl, rfl⟩; rw [hg]) | (go_at_call 41; refine (head_any _ _).mono ?_; rintro e w1 ⟨rfl, hB⟩))
    go_ret
    exact ⟨ret_int hc.out, hB⟩
  | false =>
    have hc := Aside0.mk (cp_none g hg)
    go_enter Try.func40, Try.ntmps40
    go_wp2_with (go_at_call 38; refine (gen_any _ _).mono ?_; rintro e w1 ⟨rfl, rfl⟩; rw [hg])
    go_ret
    exact ⟨ret_int hc.out.symm, Below.refl _ _⟩

/-- Why a key and a value may not be, by their lengths. -/
def whyI (g : Int) (nk nv : Nat) : Int := if genB g = true then (if nk = 0 ∨ mkI g < (nk : Int) then 50 else if mvI g < (nv : Int) then 51 else 0) else 1

set_option maxHeartbeats 1000000 in
theorem why_any (g : Int) (Ak : Option Addr) (nk ck : Nat) (Av : Option Addr) (nv cv : Nat) (w : World) (hk : nk ≤ 140737488355328) (hv : nv ≤ 140737488355328) :
    Calls Try.prog 130 #[.int .i64 g, .slice Ak nk ck, .slice Av nv cv] w fun e w' => e = .returned (.int .i64 (whyI g nk nv)) ∧ Below w.heap.size w w' := by
  cases hg : genB g with
  | true =>
    by_cases h0 : nk = 0
    · subst h0
      have hw := Aside0.mk (show whyI g 0 nv = 50 by unfold whyI; rw [if_pos hg, if_pos (.inl rfl)])
      go_enter Try.func130, Try.ntmps130
      go_wp2_with (go_at_call 38; refine (gen_any _ _).mono ?_; rintro e w1 ⟨rfl, rfl⟩; rw [hg])
      go_ret
      exact ⟨ret_int hw.out.symm, Below.refl _ _⟩
    · have h0a : ((nk : Int) == 0) = false := beq_f (by omega)
      have h0b : (nk == 0) = false := by simpa using h0
      have h0' := Aside0.mk h0
      clear h0
      by_cases h1 : mkI g < (nk : Int)
      · have h1a : decide (mkI g < (nk : Int)) = true := decide_eq_true h1
        have hw := Aside0.mk (show whyI g nk nv = 50 by unfold whyI; rw [if_pos hg, if_pos (.inr h1)])
        clear h1
        go_enter Try.func130, Try.ntmps130
        go_wp2_with (first | (go_at_call 38; refine (gen_any _ _).mono ?_; rintro e w1 ⟨rfl, rfl⟩; rw [hg]) | (go_at_call 119; refine (maxKey_any _ _).mono ?_; rintro e w1 ⟨rfl, hB⟩))
        go_ret
        exact ⟨ret_int hw.out.symm, hB⟩
      · have h1a : decide (mkI g < (nk : Int)) = false := decide_eq_false h1
        by_cases h2 : mvI g < (nv : Int)
        · have h2a : decide (mvI g < (nv : Int)) = true := decide_eq_true h2
          have hw := Aside0.mk (show whyI g nk nv = 51 by unfold whyI; rw [if_pos hg, if_neg (by have := h0'.out; omega), if_pos h2])
          clear h1 h2
          go_enter Try.func130, Try.ntmps130
          go_wp2_with (first | (go_at_call 38; refine (gen_any _ _).mono ?_; rintro e w1 ⟨rfl, rfl⟩; rw [hg]) | (go_at_call 119; refine (maxKey_any _ _).mono ?_; rintro e w1 ⟨rfl, hB⟩; replace hB := Aside0.mk hB) | (go_at_call 39; refine (maxValue_any _ _).mono ?_; rintro e w2 ⟨rfl, hB2⟩))
          go_ret
          exact ⟨ret_int hw.out.symm, below_then hB.out hB.out.size hB2⟩
        · have h2a : decide (mvI g < (nv : Int)) = false := decide_eq_false h2
          have hw := Aside0.mk (show whyI g nk nv = 0 by unfold whyI; rw [if_pos hg, if_neg (by have := h0'.out; omega), if_neg h2])
          clear h1 h2
          go_enter Try.func130, Try.ntmps130
          go_wp2_with (first | (go_at_call 38; refine (gen_any _ _).mono ?_; rintro e w1 ⟨rfl, rfl⟩; rw [hg]) | (go_at_call 119; refine (maxKey_any _ _).mono ?_; rintro e w1 ⟨rfl, hB⟩; replace hB := Aside0.mk hB) | (go_at_call 39; refine (maxValue_any _ _).mono ?_; rintro e w2 ⟨rfl, hB2⟩))
          go_ret
          exact ⟨ret_int hw.out.symm, below_then hB.out hB.out.size hB2⟩
  | false =>
    have hw := Aside0.mk (show whyI g nk nv = 1 by unfold whyI; rw [if_neg (by simp [hg])])
    go_enter Try.func130, Try.ntmps130
    go_wp2_with (go_at_call 38; refine (gen_any _ _).mono ?_; rintro e w1 ⟨rfl, rfl⟩; rw [hg])
    go_ret
    exact ⟨ret_int hw.out.symm, Below.refl _ _⟩

end Go.Proofs.Ytbjfklgmbeaaoaa

set_option linter.unusedVariables false
set_option linter.unusedSimpArgs false
namespace Go.Proofs.Ytbjfklgmbeaaoaa
open Go.RowKit

theorem item_cells {w w1 : World} {T : TypeId} {fr : Nat × Nat} {a b c d : Value} (hB : Below (w.alloc (.cells #[a, b, c, d] T fr)).heap.size (w.alloc (.cells #[a, b, c, d] T fr)) w1) :
    w1.cell? ⟨w.heap.size, 0, none⟩ = some a ∧ w1.cell? ⟨w.heap.size, 1, none⟩ = some b ∧ w1.cell? ⟨w.heap.size, 2, none⟩ = some c ∧ w1.cell? ⟨w.heap.size, 3, none⟩ = some d :=
  ⟨cell_below hB (by rw [World.cell?_alloc_mark]; rfl), cell_below hB (by rw [World.cell?_alloc_mark]; rfl), cell_below hB (by rw [World.cell?_alloc_mark]; rfl), cell_below hB (by rw [World.cell?_alloc_mark]; rfl)⟩
theorem item_row {w w1 : World} {o : Obj} (hB : Below (w.alloc o).heap.size (w.alloc o) w1) : w1.heap[w.heap.size]? = some o := by
  rw [hB.block _ (by simp)]
  exact heap_alloc_new w o
theorem below_new {w w1 : World} {o : Obj} (hB : Below (w.alloc o).heap.size (w.alloc o) w1) : Below w.heap.size w w1 :=
  below_then ((Below.refl w.heap.size w).alloc (Nat.le_refl _) _) (by simp) hB
theorem item_cells2 {W : World} {g : Nat} {a b c d : Value} {fr : Nat × Nat} {T : TypeId} (hh : W.heap[g]? = some (.cells #[a, b, c, d] T fr)) :
    W.cell? ⟨g, 0, none⟩ = some a ∧ W.cell? ⟨g, 1, none⟩ = some b ∧ W.cell? ⟨g, 2, none⟩ = some c ∧ W.cell? ⟨g, 3, none⟩ = some d :=
  ⟨by rw [cell_of_row _ _ _ _ _ _ hh]; rfl, by rw [cell_of_row _ _ _ _ _ _ hh]; rfl, by rw [cell_of_row _ _ _ _ _ _ hh]; rfl, by rw [cell_of_row _ _ _ _ _ _ hh]; rfl⟩
theorem row_below {w w1 : World} {g : Nat} {o : Obj} (h : w.heap[g]? = some o) (hB : Below w.heap.size w w1) : w1.heap[g]? = some o := by
  rw [hB.block _ (Array.getElem?_eq_some_iff.1 h).1]
  exact h
/-- A boxed item, some steps on. -/
structure IRow (w : World) (a b c d : Value) (T : TypeId) (W : World) : Prop where
  row : W.heap[w.heap.size]? = some (.cells #[a, b, c, d] T)
  bel : Below w.heap.size w W
theorem IRow.mk0 {w w1 : World} {a b c d : Value} {T : TypeId} (hB : Below (w.alloc (.cells #[a, b, c, d] T)).heap.size (w.alloc (.cells #[a, b, c, d] T)) w1) : IRow w a b c d T w1 :=
  ⟨item_row hB, below_new hB⟩
theorem IRow.step {w W W1 : World} {a b c d : Value} {T : TypeId} (h : IRow w a b c d T W) (hB : Below W.heap.size W W1) : IRow w a b c d T W1 :=
  ⟨row_below h.row hB, below_then h.bel h.bel.size hB⟩
theorem IRow.thaw {w W : World} {a b c d : Value} {T : TypeId} (h : IRow w a b c d T W) (j : Nat) : W.frozen? ⟨w.heap.size, j, none⟩ = false := by simp [World.frozen?, h.row]
theorem IRow.cells {w W : World} {a b c d : Value} {T : TypeId} (h : IRow w a b c d T W) : W.cell? ⟨w.heap.size, 0, none⟩ = some a ∧ W.cell? ⟨w.heap.size, 1, none⟩ = some b ∧ W.cell? ⟨w.heap.size, 2, none⟩ = some c ∧ W.cell? ⟨w.heap.size, 3, none⟩ = some d := by
  exact item_cells2 h.row
theorem load_item {W : World} {g : Nat} {a b c d : Value} {fr : Nat × Nat} {T : TypeId} (hh : W.heap[g]? = some (.cells #[a, b, c, d] T fr)) : (loadVar 96 ⟨g, 0, none⟩).run Try.prog W = .ok (.agg #[a, b, c, d]) W :=
  run_loadVar_row W g T 96 _ fr _ hh Try.underlying96 rfl (by kernel_rfl)
theorem load_ritem {W : World} {g : Nat} {a b c d : Value} {fr : Nat × Nat} {T : TypeId} (hh : W.heap[g]? = some (.cells #[a, b, c, d] T fr)) : (loadVar 119 ⟨g, 0, none⟩).run Try.prog W = .ok (.agg #[a, b, c, d]) W :=
  run_loadVar_row W g T 119 _ fr _ hh Try.underlying119 rfl (by kernel_rfl)
theorem IRow.load {w W : World} {a b c d : Value} {T : TypeId} (h : IRow w a b c d T W) : (loadVar 96 ⟨w.heap.size, 0, none⟩).run Try.prog W = .ok (.agg #[a, b, c, d]) W := by
  exact load_item h.row
theorem IRow.loadr {w W : World} {a b c d : Value} {T : TypeId} (h : IRow w a b c d T W) : (loadVar 119 ⟨w.heap.size, 0, none⟩).run Try.prog W = .ok (.agg #[a, b, c, d]) W := by
  exact load_ritem h.row
def farB (nv : Nat) (r : Int) : Bool := !decide (r = 0) || decide (32 < (nv : Int))
def longI (nv : Nat) (s r : Int) : Int := if r = 0 then (nv : Int) else s
set_option maxHeartbeats 1000000 in
set_option maxRecDepth 100000 in
theorem far_any (Ak : Option Addr) (nk ck : Nat) (Av : Option Addr) (nv cv : Nat) (s r : Int) (w : World) :
    Calls Try.prog 69 #[.agg #[.slice Ak nk ck, .slice Av nv cv, .int .i64 s, .int .i64 r]] w fun e w' => e = .returned (.bool (farB nv r)) ∧ Below w.heap.size w w' := by
  by_cases h : r = 0
  · subst h
    go_enter Try.func69, Try.ntmps69
    go_wp2
    go_ret
    exact ⟨ret_bool (by unfold farB; simp), (Below.refl _ _).alloc (Nat.le_refl _) _⟩
  · have h1 : (r == 0) = false := beq_f h
    have h2 : (r != 0) = true := bne_t h
    go_enter Try.func69, Try.ntmps69
    go_wp2
    go_ret
    exact ⟨ret_bool (by unfold farB; simp [h]), (Below.refl _ _).alloc (Nat.le_refl _) _⟩
set_option maxHeartbeats 1000000 in
set_option maxRecDepth 100000 in
theorem long_any (Ak : Option Addr) (nk ck : Nat) (Av : Option Addr) (nv cv : Nat) (s r : Int) (w : World) :
    Calls Try.prog 104 #[.agg #[.slice Ak nk ck, .slice Av nv cv, .int .i64 s, .int .i64 r]] w fun e w' => e = .returned (.int .i64 (longI nv s r)) ∧ Below w.heap.size w w' := by
  by_cases h : r = 0
  · subst h
    go_enter Try.func104, Try.ntmps104
    go_wp2
    go_ret
    exact ⟨ret_int (by unfold longI; simp), (Below.refl _ _).alloc (Nat.le_refl _) _⟩
  · have h1 : (r == 0) = false := beq_f h
    have h2 : (r != 0) = true := bne_t h
    go_enter Try.func104, Try.ntmps104
    go_wp2
    go_ret
    exact ⟨ret_int (by unfold longI; simp [h]), (Below.refl _ _).alloc (Nat.le_refl _) _⟩
def kidI (g : Int) (nk : Nat) : Int := if genB g = true then 1 + (nk : Int) + iwI g else 0
set_option maxHeartbeats 1000000 in
set_option maxRecDepth 100000 in
theorem kid_any (g : Int) (Ak : Option Addr) (nk ck : Nat) (w : World) (hk : nk ≤ 140737488355328) :
    Calls Try.prog 137 #[.int .i64 g, .slice Ak nk ck] w fun e w' => e = .returned (.int .i64 (kidI g nk)) ∧ Below w.heap.size w w' := by
  obtain ⟨r0, r1⟩ := iw_range g
  cases hg : genB g with
  | true =>
    go_enter Try.func137, Try.ntmps137
    go_wp2_with (first | (go_at_call 38; refine (gen_any _ _).mono ?_; rintro e w1 ⟨rfl, rfl⟩; rw [hg]) | (go_at_call 64; refine (idWidth_any _ _).mono ?_; rintro e w1 ⟨rfl, hB⟩))
    go_ret
    exact ⟨ret_int (by unfold kidI; rw [if_pos hg]), hB⟩
  | false =>
    go_enter Try.func137, Try.ntmps137
    go_wp2_with (first | (go_at_call 38; refine (gen_any _ _).mono ?_; rintro e w1 ⟨rfl, rfl⟩; rw [hg]) | (go_at_call 64; refine (idWidth_any _ _).mono ?_; rintro e w1 ⟨rfl, hB⟩))
    go_ret
    exact ⟨ret_int (by unfold kidI; rw [if_neg (by simp [hg])]), Below.refl _ _⟩
def roomI (g : Int) (nk nv : Nat) (r : Int) : Int := if genB g = true then (if farB nv r = true then 4 + (nk : Int) + iwI g else 4 + (nk : Int) + (nv : Int)) else 0
set_option maxHeartbeats 1000000 in
set_option maxRecDepth 100000 in
theorem room_any (g : Int) (Ak : Option Addr) (nk ck : Nat) (Av : Option Addr) (nv cv : Nat) (s r : Int) (w : World) (hk : nk ≤ 140737488355328) (hv : nv ≤ 140737488355328) :
    Calls Try.prog 136 #[.int .i64 g, .agg #[.slice Ak nk ck, .slice Av nv cv, .int .i64 s, .int .i64 r]] w fun e w' => e = .returned (.int .i64 (roomI g nk nv r)) ∧ Below w.heap.size w w' := by
  obtain ⟨r0, r1⟩ := iw_range g
  cases hg : genB g with
  | true =>
    cases hf : farB nv r with
    | true =>
      go_enter Try.func136, Try.ntmps136
      go_wp2_with (first | (go_at_call 38; refine (gen_any _ _).mono ?_; rintro e w1 ⟨rfl, rfl⟩; rw [hg]) | (go_at_call 69; refine (far_any Ak nk ck Av nv cv s r _).mono ?_; rintro e w1 ⟨rfl, hB1⟩; rw [hf]))
      obtain ⟨c0, c1, c2, c3⟩ := item_cells hB1
      replace hB1 := Aside0.mk (below_new hB1)
      refine wp_region_ext (by kernel_rfl) (by kernel_rfl) ?_
      have d0 := cell_ext c0
      repeat (go_big_quiet_step ((go_at_call 64; exact Calls.ext_of (idWidth_any _ _))))
      refine wpQuiet_nil ?_
      rintro w' ⟨kx, rfl⟩
      have hBk := below_then hB1.out hB1.out.size kx.bel
      go_wp2
      go_ret
      exact ⟨ret_int (by unfold roomI; rw [if_pos hg, if_pos hf]), hBk⟩
    | false =>
      go_enter Try.func136, Try.ntmps136
      go_wp2_with (first | (go_at_call 38; refine (gen_any _ _).mono ?_; rintro e w1 ⟨rfl, rfl⟩; rw [hg]) | (go_at_call 69; refine (far_any Ak nk ck Av nv cv s r _).mono ?_; rintro e w1 ⟨rfl, hB1⟩; rw [hf]; obtain ⟨c0, c1, c2, c3⟩ := item_cells hB1; replace hB1 := Aside0.mk (below_new hB1)))
      go_ret
      exact ⟨ret_int (by unfold roomI; rw [if_pos hg, if_neg (by simp [hf])]), hB1.out⟩
  | false =>
    go_enter Try.func136, Try.ntmps136
    go_wp2_with (first | (go_at_call 38; refine (gen_any _ _).mono ?_; rintro e w1 ⟨rfl, rfl⟩; rw [hg]))
    go_ret
    exact ⟨ret_int (by unfold roomI; rw [if_neg (by simp [hg])]), (Below.refl _ _).alloc (Nat.le_refl _) _⟩

/-- Which items may be. -/
def rightB (g : Int) (nk nv : Nat) (s r : Int) : Bool := decide (whyI g nk nv = 0 ∧ longI nv s r ≤ mvI g) && (if r = 0 then decide (s = 0) else decide (2 ≤ r ∧ r < 16384 ∧ 32 < s ∧ nv = 0))
set_option maxHeartbeats 1000000 in
set_option maxRecDepth 100000 in
theorem right_any (g : Int) (Ak : Option Addr) (nk ck : Nat) (Av : Option Addr) (nv cv : Nat) (s r : Int) (w : World) (hk : nk ≤ 140737488355328) (hv : nv ≤ 140737488355328) :
    Calls Try.prog 121 #[.int .i64 g, .agg #[.slice Ak nk ck, .slice Av nv cv, .int .i64 s, .int .i64 r]] w fun e w' => e = .returned (.bool (rightB g nk nv s r)) ∧ Below w.heap.size w w' := by
  by_cases h1 : whyI g nk nv = 0
  · have h1a : (whyI g nk nv != 0) = false := bne_f h1
    by_cases h2 : longI nv s r ≤ mvI g
    · have h2a : decide (mvI g < longI nv s r) = false := decide_eq_false (by omega)
      have h12 := Aside0.mk (show decide (whyI g nk nv = 0 ∧ longI nv s r ≤ mvI g) = true from decide_eq_true ⟨h1, h2⟩)
      clear h2
      by_cases h3 : r = 0
      · have h3a : (r == 0) = true := beq_t h3
        clear h3a
        subst h3
        have HV := Aside0.mk (show rightB g nk nv s 0 = decide (s = 0) from by unfold rightB; rw [h12.out, if_pos rfl, Bool.true_and])
        go_enter Try.func121, Try.ntmps121
        go_wp2_with (first | (go_at_call 130; refine (why_any g Ak nk ck Av nv cv _ hk hv).mono ?_; rintro e w1 ⟨rfl, hB1⟩; (have HR1 := Aside0.mk (IRow.mk0 hB1)); obtain ⟨c0, c1, c2, c3⟩ := HR1.out.cells; (have cl := HR1.out.load); clear hB1) | (go_at_call 104; refine (long_any Ak nk ck Av nv cv s _ _).mono ?_; rintro e w2 ⟨rfl, hB2⟩; (have HR2 := Aside0.mk (HR1.out.step hB2)); clear hB2) | (go_at_call 39; refine (maxValue_any g _).mono ?_; rintro e w3 ⟨rfl, hB3⟩; (have HR3 := Aside0.mk (HR2.out.step hB3)); (obtain ⟨e0, e1, e2, e3⟩ := HR3.out.cells); clear hB3))
        go_ret
        exact ⟨ret_bool (by rw [HV.out]; first | done | rfl | (rw [Bool.eq_iff_iff]; simp)), HR3.out.bel⟩
      · have h3a : (r == 0) = false := beq_f h3
        have h3' := Aside0.mk h3
        by_cases h4 : 2 ≤ r
        · have h4a : decide (2 ≤ r) = true := decide_eq_true h4
          by_cases h5 : r < 16384
          · have h5a : decide (r < 16384) = true := decide_eq_true h5
            by_cases h6 : 32 < s
            · have h6a : decide (32 < s) = true := decide_eq_true h6
              have HV := Aside0.mk (show rightB g nk nv s r = decide ((nv : Int) = 0) from by unfold rightB; rw [h12.out, if_neg h3, Bool.true_and]; apply decide_eq_decide.2; omega)
              go_enter Try.func121, Try.ntmps121
              go_wp2_with (first | (go_at_call 130; refine (why_any g Ak nk ck Av nv cv _ hk hv).mono ?_; rintro e w1 ⟨rfl, hB1⟩; (have HR1 := Aside0.mk (IRow.mk0 hB1)); obtain ⟨c0, c1, c2, c3⟩ := HR1.out.cells; (have cl := HR1.out.load); clear hB1) | (go_at_call 104; refine (long_any Ak nk ck Av nv cv s _ _).mono ?_; rintro e w2 ⟨rfl, hB2⟩; (have HR2 := Aside0.mk (HR1.out.step hB2)); clear hB2) | (go_at_call 39; refine (maxValue_any g _).mono ?_; rintro e w3 ⟨rfl, hB3⟩; (have HR3 := Aside0.mk (HR2.out.step hB3)); (obtain ⟨e0, e1, e2, e3⟩ := HR3.out.cells); clear hB3))
              go_ret
              exact ⟨ret_bool (by rw [HV.out]; first | done | rfl | (rw [Bool.eq_iff_iff]; simp)), HR3.out.bel⟩
            · have h6a : decide (32 < s) = false := decide_eq_false h6
              have HV := Aside0.mk (show rightB g nk nv s r = false from by unfold rightB; rw [h12.out, if_neg h3, Bool.true_and]; apply decide_eq_false; omega)
              go_enter Try.func121, Try.ntmps121
              go_wp2_with (first | (go_at_call 130; refine (why_any g Ak nk ck Av nv cv _ hk hv).mono ?_; rintro e w1 ⟨rfl, hB1⟩; (have HR1 := Aside0.mk (IRow.mk0 hB1)); obtain ⟨c0, c1, c2, c3⟩ := HR1.out.cells; (have cl := HR1.out.load); clear hB1) | (go_at_call 104; refine (long_any Ak nk ck Av nv cv s _ _).mono ?_; rintro e w2 ⟨rfl, hB2⟩; (have HR2 := Aside0.mk (HR1.out.step hB2)); clear hB2) | (go_at_call 39; refine (maxValue_any g _).mono ?_; rintro e w3 ⟨rfl, hB3⟩; (have HR3 := Aside0.mk (HR2.out.step hB3)); (obtain ⟨e0, e1, e2, e3⟩ := HR3.out.cells); clear hB3))
              go_ret
              exact ⟨ret_bool (by rw [HV.out]; first | done | rfl | (rw [Bool.eq_iff_iff]; simp)), HR3.out.bel⟩
          · have h5a : decide (r < 16384) = false := decide_eq_false h5
            have HV := Aside0.mk (show rightB g nk nv s r = false from by unfold rightB; rw [h12.out, if_neg h3, Bool.true_and]; apply decide_eq_false; omega)
            go_enter Try.func121, Try.ntmps121
            go_wp2_with (first | (go_at_call 130; refine (why_any g Ak nk ck Av nv cv _ hk hv).mono ?_; rintro e w1 ⟨rfl, hB1⟩; (have HR1 := Aside0.mk (IRow.mk0 hB1)); obtain ⟨c0, c1, c2, c3⟩ := HR1.out.cells; (have cl := HR1.out.load); clear hB1) | (go_at_call 104; refine (long_any Ak nk ck Av nv cv s _ _).mono ?_; rintro e w2 ⟨rfl, hB2⟩; (have HR2 := Aside0.mk (HR1.out.step hB2)); clear hB2) | (go_at_call 39; refine (maxValue_any g _).mono ?_; rintro e w3 ⟨rfl, hB3⟩; (have HR3 := Aside0.mk (HR2.out.step hB3)); (obtain ⟨e0, e1, e2, e3⟩ := HR3.out.cells); clear hB3))
            go_ret
            exact ⟨ret_bool (by rw [HV.out]; first | done | rfl | (rw [Bool.eq_iff_iff]; simp)), HR3.out.bel⟩
        · have h4a : decide (2 ≤ r) = false := decide_eq_false h4
          have HV := Aside0.mk (show rightB g nk nv s r = false from by unfold rightB; rw [h12.out, if_neg h3, Bool.true_and]; apply decide_eq_false; omega)
          go_enter Try.func121, Try.ntmps121
          go_wp2_with (first | (go_at_call 130; refine (why_any g Ak nk ck Av nv cv _ hk hv).mono ?_; rintro e w1 ⟨rfl, hB1⟩; (have HR1 := Aside0.mk (IRow.mk0 hB1)); obtain ⟨c0, c1, c2, c3⟩ := HR1.out.cells; (have cl := HR1.out.load); clear hB1) | (go_at_call 104; refine (long_any Ak nk ck Av nv cv s _ _).mono ?_; rintro e w2 ⟨rfl, hB2⟩; (have HR2 := Aside0.mk (HR1.out.step hB2)); clear hB2) | (go_at_call 39; refine (maxValue_any g _).mono ?_; rintro e w3 ⟨rfl, hB3⟩; (have HR3 := Aside0.mk (HR2.out.step hB3)); (obtain ⟨e0, e1, e2, e3⟩ := HR3.out.cells); clear hB3))
          go_ret
          exact ⟨ret_bool (by rw [HV.out]; first | done | rfl | (rw [Bool.eq_iff_iff]; simp)), HR3.out.bel⟩
    · have h2a : decide (mvI g < longI nv s r) = true := decide_eq_true (by omega)
      have HV := Aside0.mk (show rightB g nk nv s r = false from by unfold rightB; rw [decide_eq_false (fun h => h2 h.2), Bool.false_and])
      go_enter Try.func121, Try.ntmps121
      go_wp2_with (first | (go_at_call 130; refine (why_any g Ak nk ck Av nv cv _ hk hv).mono ?_; rintro e w1 ⟨rfl, hB1⟩; (have HR1 := Aside0.mk (IRow.mk0 hB1)); obtain ⟨c0, c1, c2, c3⟩ := HR1.out.cells; (have cl := HR1.out.load); clear hB1) | (go_at_call 104; refine (long_any Ak nk ck Av nv cv s _ _).mono ?_; rintro e w2 ⟨rfl, hB2⟩; (have HR2 := Aside0.mk (HR1.out.step hB2)); clear hB2) | (go_at_call 39; refine (maxValue_any g _).mono ?_; rintro e w3 ⟨rfl, hB3⟩; (have HR3 := Aside0.mk (HR2.out.step hB3)); (obtain ⟨e0, e1, e2, e3⟩ := HR3.out.cells); clear hB3))
      go_ret
      exact ⟨ret_bool (by rw [HV.out]; first | done | rfl | (rw [Bool.eq_iff_iff]; simp)), HR3.out.bel⟩
  · have h1a : (whyI g nk nv != 0) = true := bne_t h1
    have HV := Aside0.mk (show rightB g nk nv s r = false from by unfold rightB; rw [decide_eq_false (fun h => h1 h.1), Bool.false_and])
    go_enter Try.func121, Try.ntmps121
    go_wp2_with (first | (go_at_call 130; refine (why_any g Ak nk ck Av nv cv _ hk hv).mono ?_; rintro e w1 ⟨rfl, hB1⟩; (have HR1 := Aside0.mk (IRow.mk0 hB1)); obtain ⟨c0, c1, c2, c3⟩ := HR1.out.cells; (have cl := HR1.out.load); clear hB1) | (go_at_call 104; refine (long_any Ak nk ck Av nv cv s _ _).mono ?_; rintro e w2 ⟨rfl, hB2⟩; (have HR2 := Aside0.mk (HR1.out.step hB2)); clear hB2) | (go_at_call 39; refine (maxValue_any g _).mono ?_; rintro e w3 ⟨rfl, hB3⟩; (have HR3 := Aside0.mk (HR2.out.step hB3)); (obtain ⟨e0, e1, e2, e3⟩ := HR3.out.cells); clear hB3))
    go_ret
    exact ⟨ret_bool (by rw [HV.out]; first | done | rfl | (rw [Bool.eq_iff_iff]; simp)), HR1.out.bel⟩

end Go.Proofs.Ytbjfklgmbeaaoaa

set_option linter.unusedVariables false
set_option linter.unusedSimpArgs false
namespace Go.Proofs.Ytbjfklgmbeaaoaa
open Go.RowKit

theorem Bs.bytesOf {w : World} {A : Option Addr} {n c : Nat} {xs : List UInt8} (h : Bs w A n c xs) : (Extern.Bytes.bytesOf (.slice A n c)).run Try.prog w = .ok (strB xs) w := by
  have hn := h.len
  rcases A with _ | ad
  · have h0 : n = 0 := by
      rcases Nat.eq_zero_or_pos n with h0 | h0
      · exact h0
      · obtain ⟨ad, h', _⟩ := h.cells h0
        cases h'
    subst h0
    obtain rfl : xs = [] := List.eq_nil_of_length_eq_zero hn
    rfl
  · have := Lib.run_loadBytesX (P := Try.prog) w (xs.map fun x => (x.toNat : Int)) ad .empty (fun j x hj => by
      rw [List.getElem?_map] at hj
      cases hx : xs[j]? with
      | none => rw [hx] at hj; cases hj
      | some y =>
        rw [hx] at hj
        injection hj with hj
        obtain ⟨hl, he⟩ := List.getElem?_eq_some_iff.1 hx
        obtain ⟨ad', he', hc⟩ := h.cells (by omega)
        injection he' with he'
        subst he'
        rw [hc j (by omega)]
        simp [b8, List.getD_eq_getElem?_getD, hx, hj])
    rw [List.length_map, hn] at this
    have e : Lib.bytesOf (xs.map fun x => (x.toNat : Int)) = xs := by
      unfold Lib.bytesOf
      rw [List.map_map]
      exact (List.map_congr_left (fun x _ => by simp)).trans (List.map_id _)
    rw [e] at this
    refine Eq.trans this ?_
    congr 1
    unfold strB
    apply ByteArray.ext
    simp [ByteArray.empty, ByteArray.emptyWithCapacity]
    rfl
theorem dd2 (w : World) (a b : Nat) : (w.drewN a).drewN b = w.drewN (a + b) := by rw [World.drewN_drewN]
theorem dd3 (w : World) (a b c : Nat) : ((w.drewN a).drewN b).drewN c = w.drewN (a + b + c) := by rw [World.drewN_drewN, World.drewN_drewN, Nat.add_assoc]
theorem bcmp_run {w : World} {A A' : Option Addr} {n c n' c' : Nat} {xs ys : List UInt8} (h : Bs w A n c xs) (h' : Bs w A' n' c' ys) :
    (callFunc 135 #[.slice A n c, .slice A' n' c']).run Try.prog w = .ok (.value (.int .i64 (Lib.compareBytes xs ys))) w := by
  rw [run_callFunc_extern (e := Extern.BytealgCompare.compare) Try.func135 (by kernel_rfl) (by kernel_rfl) (by kernel_rfl) (by kernel_rfl)]
  change (Sem.run Try.prog (do pure (goInt (Extern.BytealgCompare.cmp (← Extern.Bytes.bytesOf (.slice A n c)) (← Extern.Bytes.bytesOf (.slice A' n' c'))))) w).andThen _ = _
  simp only [Sem.run_bind, Sem.run_pure, h.bytesOf, h'.bytesOf, Result.andThen, Lib.cmp_eq]
  rfl
set_option maxHeartbeats 1000000 in
theorem bcompare_any (A : Option Addr) (n c : Nat) (xs : List UInt8) (A' : Option Addr) (n' c' : Nat) (ys : List UInt8) (w : World) (hb : Bs w A n c xs) (hb' : Bs w A' n' c' ys) :
    Calls Try.prog 131 #[.slice A n c, .slice A' n' c'] w fun e w' => e = .returned (.int .i64 (Lib.compareBytes xs ys)) ∧ w = w' := by
  have hr := bcmp_run hb hb'
  go_enter Try.func131, Try.ntmps131
  go_wp2
  go_ret
  exact ⟨rfl, rfl⟩
set_option maxHeartbeats 1000000 in
theorem icompare_any (A : Option Addr) (n c : Nat) (xs : List UInt8) (A' : Option Addr) (n' c' : Nat) (ys : List UInt8) (w : World) (hb : Bs w A n c xs) (hb' : Bs w A' n' c' ys) :
    Calls Try.prog 122 #[.slice A n c, .slice A' n' c'] w fun e w' => e = .returned (.int .i64 (Lib.compareBytes xs ys)) ∧ w = w' := by
  go_enter Try.func122, Try.ntmps122
  go_wp2_with (go_at_call 131; refine (bcompare_any A n c xs A' n' c' ys _ hb hb').mono ?_; rintro e w1 ⟨rfl, rfl⟩)
  go_ret
  exact ⟨rfl, rfl⟩

/-! How two rows of bytes stand: the plain law -/
theorem cmp_opp (xs ys : List UInt8) : Lib.compareBytes ys xs = -Lib.compareBytes xs ys := by
  induction xs generalizing ys with
  | nil => cases ys <;> simp [Lib.compareBytes]
  | cons x xs ih =>
    cases ys with
    | nil => simp [Lib.compareBytes]
    | cons y ys =>
      simp only [Lib.compareBytes]
      by_cases h1 : x < y
      · have h2 : ¬ y < x := UInt8.lt_asymm h1
        simp [h1, h2]
      · by_cases h2 : y < x
        · simp [h1, h2]
        · simp [h1, h2, ih]
theorem cmp_three (xs ys : List UInt8) : Lib.compareBytes xs ys = -1 ∨ Lib.compareBytes xs ys = 0 ∨ Lib.compareBytes xs ys = 1 := by
  induction xs generalizing ys with
  | nil => cases ys <;> simp [Lib.compareBytes]
  | cons x xs ih =>
    cases ys with
    | nil => simp [Lib.compareBytes]
    | cons y ys =>
      simp only [Lib.compareBytes]
      split
      · exact .inl rfl
      · split
        · exact .inr (.inr rfl)
        · exact ih ys
theorem cmp_eq0 (xs ys : List UInt8) : Lib.compareBytes xs ys = 0 ↔ xs = ys := by
  induction xs generalizing ys with
  | nil => cases ys <;> simp [Lib.compareBytes]
  | cons x xs ih =>
    cases ys with
    | nil => simp [Lib.compareBytes]
    | cons y ys =>
      simp only [Lib.compareBytes]
      by_cases h1 : x < y
      · have : x ≠ y := fun e => UInt8.lt_irrefl y (e ▸ h1)
        simp [h1, this]
      · by_cases h2 : y < x
        · have : x ≠ y := fun e => UInt8.lt_irrefl y (e ▸ h2)
          simp [h1, h2, this]
        · have : x = y := UInt8.le_antisymm (UInt8.not_lt.1 h2) (UInt8.not_lt.1 h1)
          simp [h1, h2, this, ih]
theorem cmp_row (xs ys zs : List UInt8) (h1 : Lib.compareBytes xs ys ≤ 0) (h2 : Lib.compareBytes ys zs ≤ 0) : Lib.compareBytes xs zs ≤ 0 := by
  induction xs generalizing ys zs with
  | nil => cases zs <;> simp [Lib.compareBytes]
  | cons x xs ih =>
    cases ys with
    | nil => simp [Lib.compareBytes] at h1
    | cons y ys =>
      cases zs with
      | nil => simp [Lib.compareBytes] at h2
      | cons z zs =>
        simp only [Lib.compareBytes] at h1 h2 ⊢
        by_cases a1 : x < y
        · by_cases b1 : y < z
          · simp [UInt8.lt_trans a1 b1]
          · by_cases b2 : z < y
            · simp [b1, b2] at h2
            · have : y = z := UInt8.le_antisymm (UInt8.not_lt.1 b2) (UInt8.not_lt.1 b1)
              subst this
              simp [a1]
        · by_cases a2 : y < x
          · simp [a1, a2] at h1
          · have : x = y := UInt8.le_antisymm (UInt8.not_lt.1 a2) (UInt8.not_lt.1 a1)
            subst this
            by_cases b1 : x < z
            · simp [b1]
            · by_cases b2 : z < x
              · simp [b1, b2] at h2
              · simp only [a1, b1, b2, if_false] at h1 h2 ⊢
                exact ih ys zs h1 h2
theorem cmp_step (xs ys : List UInt8) (j : Nat) (h1 : j < xs.length) (h2 : j < ys.length) :
    Lib.compareBytes (xs.drop j) (ys.drop j) = if xs.getD j 0 < ys.getD j 0 then -1 else if ys.getD j 0 < xs.getD j 0 then 1 else Lib.compareBytes (xs.drop (j + 1)) (ys.drop (j + 1)) := by
  rw [List.drop_eq_getElem_cons h1, List.drop_eq_getElem_cons h2, Lib.compareBytes]
  simp [List.getD_eq_getElem?_getD, List.getElem?_eq_getElem h1, List.getElem?_eq_getElem h2]

set_option maxHeartbeats 1000000 in
set_option maxRecDepth 100000 in
theorem rcompare_any (A : Option Addr) (n c : Nat) (xs : List UInt8) (A' : Option Addr) (n' c' : Nat) (ys : List UInt8) (w : World) (hb : Bs w A n c xs) (hb' : Bs w A' n' c' ys) :
    Calls Try.prog 82 #[.slice A n c, .slice A' n' c'] w fun e w' => e = .returned (.int .i64 (Lib.compareBytes xs ys)) ∧ ∃ m, w' = w.drewN m := by
  have hlim := hb.lim
  have hlim' := hb'.lim
  have HB := Aside0.mk (And.intro hb hb')
  clear hb hb'
  go_enter Try.func82, Try.ntmps82
  go_wp2
  go_loopg [5] n (fun k v wr => ∃ (j m : Nat), Aside (k + j = n) ∧ v = .int .i64 (j : Int) ∧ Aside (j ≤ n') ∧ wr = w.drewN m ∧ Aside0 (Lib.compareBytes xs ys = Lib.compareBytes (xs.drop j) (ys.drop j)))
  case atStart => exact ⟨0, 0, rfl, rfl, (show 0 ≤ n' by omega), (World.drewN_zero w).symm, ⟨rfl⟩⟩
  case round =>
    obtain ⟨j, m, hk, rfl, hj, rfl, hc⟩ := hrel
    have hjn := hj.out
    have hjk : j ≤ n := by have := hk.out; omega
    by_cases hlt : j < n
    · have hlti : decide ((j : Int) < (n : Int)) = true := decide_eq_true (by omega)
      by_cases hlt' : j < n'
      · have hlti' : decide ((j : Int) < (n' : Int)) = true := decide_eq_true (by omega)
        obtain ⟨ad, rfl, hx⟩ := HB.out.1.atN j hlt
        obtain ⟨ad', rfl, hx'⟩ := HB.out.2.atN j hlt'
        have hst := Aside0.mk (cmp_step xs ys j (by rw [HB.out.1.len]; exact hlt) (by rw [HB.out.2.len]; exact hlt'))
        have hbl : xs.getD j 0 < ys.getD j 0 ↔ b8 xs j < b8 ys j := by unfold b8; rw [UInt8.lt_iff_toNat_lt]; omega
        have hbl' : ys.getD j 0 < xs.getD j 0 ↔ b8 ys j < b8 xs j := by unfold b8; rw [UInt8.lt_iff_toNat_lt]; omega
        have hbl2 := Aside0.mk (And.intro hbl hbl')
        clear hbl hbl'
        by_cases e1 : b8 xs j < b8 ys j
        · have e1' : decide (b8 xs j < b8 ys j) = true := decide_eq_true e1
          have hv := Aside0.mk (show Lib.compareBytes xs ys = -1 by rw [hc.out, hst.out, if_pos (hbl2.out.1.2 e1)])
          clear e1
          go_wp2
          go_quiet (fail)
          go_wp2
          go_ret
          exact ⟨ret_int hv.out.symm, _, by first | rfl | exact dd2 .. | exact dd3 ..⟩
        · have e1' : decide (b8 xs j < b8 ys j) = false := decide_eq_false e1
          by_cases e2 : b8 ys j < b8 xs j
          · have e2' : decide (b8 ys j < b8 xs j) = true := decide_eq_true e2
            have hv := Aside0.mk (show Lib.compareBytes xs ys = 1 by rw [hc.out, hst.out, if_neg (fun h => e1 (hbl2.out.1.1 h)), if_pos (hbl2.out.2.2 e2)])
            clear e1 e2
            go_wp2
            go_quiet (fail)
            go_wp2
            go_quiet (fail)
            go_wp2
            go_ret
            exact ⟨ret_int hv.out.symm, _, by first | rfl | exact dd2 .. | exact dd3 ..⟩
          · have e2' : decide (b8 ys j < b8 xs j) = false := decide_eq_false e2
            have hv := Aside0.mk (show Lib.compareBytes xs ys = Lib.compareBytes (xs.drop (j + 1)) (ys.drop (j + 1)) by rw [hc.out, hst.out, if_neg (fun h => e1 (hbl2.out.1.1 h)), if_neg (fun h => e2 (hbl2.out.2.1 h))])
            clear e1 e2
            go_wp2
            go_quiet (fail)
            go_wp2
            go_quiet (fail)
            go_wp2
            go_roundg (n - (j + 1))
            case measure => have := hk.out; omega
            case rel =>
              refine ⟨j + 1, _, ?_, by go_num, ?_, rfl, hv⟩
              · have := hk.out; exact (show n - (j + 1) + (j + 1) = n by omega)
              · exact (show j + 1 ≤ n' by omega)
      · have hlti' : decide ((j : Int) < (n' : Int)) = false := decide_eq_false (by omega)
        have hv := Aside0.mk (show Lib.compareBytes xs ys = 1 by
          rw [hc.out, List.drop_eq_nil_of_le (show ys.length ≤ j by rw [HB.out.2.len]; omega), List.drop_eq_getElem_cons (show j < xs.length by rw [HB.out.1.len]; omega)]; rfl)
        have d1 : decide ((n : Int) < (n' : Int)) = false := decide_eq_false (by omega)
        have d2 : decide ((n' : Int) < (n : Int)) = true := decide_eq_true (by omega)
        go_wp2
        go_ret
        exact ⟨ret_int hv.out.symm, _, by first | rfl | exact dd2 .. | exact dd3 ..⟩
    · obtain rfl : j = n := by omega
      have hl0 := HB.out.1.len
      have hl1 := HB.out.2.len
      by_cases hn' : j < n'
      · have hv := Aside0.mk (show Lib.compareBytes xs ys = -1 by
          rw [hc.out, List.drop_eq_nil_of_le (show xs.length ≤ j by omega), List.drop_eq_getElem_cons (show j < ys.length by omega)]; rfl)
        have d1 : decide ((j : Int) < (n' : Int)) = true := decide_eq_true (by omega)
        go_wp2
        go_ret
        exact ⟨ret_int hv.out.symm, _, by first | rfl | exact dd2 .. | exact dd3 ..⟩
      · obtain rfl : j = n' := by omega
        have hv := Aside0.mk (show Lib.compareBytes xs ys = 0 by
          rw [hc.out, List.drop_eq_nil_of_le (show xs.length ≤ j by omega), List.drop_eq_nil_of_le (show ys.length ≤ j by omega)]; rfl)
        clear hl0 hl1
        go_wp2
        go_ret
        exact ⟨ret_int hv.out.symm, _, by first | rfl | exact dd2 .. | exact dd3 ..⟩

end Go.Proofs.Ytbjfklgmbeaaoaa

set_option linter.unusedVariables false
set_option linter.unusedSimpArgs false
namespace Go.Proofs.Ytbjfklgmbeaaoaa
open Go.RowKit

theorem Ow.kept' {w w1 : World} {base n c : Nat} {A : Option Addr} {xs : List UInt8} (h : Ow w base A n c xs) (hb : ∀ g, base ≤ g → g < w.heap.size → w1.heap[g]? = w.heap[g]?) : Ow w1 base A n c xs := by
  refine ⟨⟨h.row.1, ?_⟩, h.lim⟩
  rcases h.row.2 with hn | ⟨g, cap, cur, hv, hg, hh, rest⟩
  · exact .inl hn
  · exact .inr ⟨g, cap, cur, hv, hg, by rw [hb g hg (Array.getElem?_eq_some_iff.1 hh).1]; exact hh, rest⟩
theorem set4 {w : World} {g k i0 i1 i2 i3 : Nat} {a b c d : Value} (h : g ≠ k) : ((((w.setCell ⟨k, i0, none⟩ a).setCell ⟨k, i1, none⟩ b).setCell ⟨k, i2, none⟩ c).setCell ⟨k, i3, none⟩ d).heap[g]? = w.heap[g]? := by
  rw [Below.heap_setCell _ _ _ _ h, Below.heap_setCell _ _ _ _ h, Below.heap_setCell _ _ _ _ h, Below.heap_setCell _ _ _ _ h]
set_option maxHeartbeats 1000000 in
set_option maxRecDepth 100000 in
theorem iof_any (Ak : Option Addr) (nk ck : Nat) (xs : List UInt8) (Av : Option Addr) (nv cv : Nat) (ys : List UInt8) (w : World) (hb : Bs w Ak nk ck xs) (hb' : Bs w Av nv cv ys) :
    Calls Try.prog 57 #[.slice Ak nk ck, .slice Av nv cv] w fun e w' => ∃ A1 c1 A2 c2, e = .returned (.agg #[.slice A1 nk c1, .slice A2 nv c2, .int .i64 0, .int .i64 0]) ∧ Ow w' w.heap.size A1 nk c1 xs ∧ Ow w' w.heap.size A2 nv c2 ys ∧ Below w.heap.size w w' := by
  have HB := Aside0.mk (And.intro hb hb')
  clear hb hb'
  go_enter Try.func57, Try.ntmps57
  go_wp2_with (first | (go_at_call 49; first | (with_reducible refine (clone8_any Ak nk ck xs _ (HB.out.1.alloc _)).mono ?_; rintro e w1 ⟨A1, c1, rfl, hO1, hB1⟩; (have HR1 := Aside0.mk (And.intro hO1 (And.intro (IRow.mk0 hB1) hB1))); clear hO1 hB1) | (with_reducible refine (clone8_any Av nv cv ys _ ((HB.out.2.alloc _).below HR1.out.2.2)).mono ?_; rintro e w2 ⟨A2, c2, rfl, hO2, hB2⟩; (have HR2 := Aside0.mk (And.intro (HR1.out.1.below hB2) (And.intro hO2 (HR1.out.2.1.step hB2)))); (have t0 := HR2.out.2.2.thaw); obtain ⟨k0, k1, k2, k3⟩ := HR2.out.2.2.cells; clear hO2 hB2)))
  refine bodyPost_ret (v := .agg #[.slice A1 nk c1, .slice A2 nv c2, .int .i64 0, .int .i64 0]) (by simp [results, Try.results57, go_sem, k0, k1, k2, k3]) rfl ⟨A1, c1, A2, c2, rfl, ?_, ?_, ?_⟩
  · exact (HR2.out.1.kept' fun g hg _ => set4 (by simp at hg; omega)).mono (by simp)
  · exact (HR2.out.2.1.kept' fun g hg _ => set4 (by have := HR1.out.2.2.size; simp at this; omega)).mono (HR1.out.2.1.bel.size)
  · exact (((HR2.out.2.2.bel.setCell (p := ⟨w.heap.size, 0, none⟩) (Nat.le_refl _) _).setCell (p := ⟨w.heap.size, 1, none⟩) (Nat.le_refl _) _).setCell (p := ⟨w.heap.size, 2, none⟩) (Nat.le_refl _) _).setCell (p := ⟨w.heap.size, 3, none⟩) (Nat.le_refl _) _

def sameB (xs ys xs' ys' : List UInt8) (s r s' r' : Int) : Bool := decide (xs = xs' ∧ ys = ys' ∧ s = s' ∧ r = r')
theorem seq_t {xs ys : List UInt8} (h : xs = ys) : (xs == ys) = true := beq_iff_eq.mpr h
theorem seq_f {xs ys : List UInt8} (h : ¬ xs = ys) : (xs == ys) = false := beq_eq_false_iff_ne.mpr h
set_option maxHeartbeats 1000000 in
set_option maxRecDepth 100000 in
theorem isame_any (Ak : Option Addr) (nk ck : Nat) (xs : List UInt8) (Av : Option Addr) (nv cv : Nat) (ys : List UInt8) (s r : Int) (Bk : Option Addr) (mk dk : Nat) (xs' : List UInt8) (Bv : Option Addr) (mv dv : Nat) (ys' : List UInt8) (s' r' : Int) (w : World)
    (hb : Bs w Ak nk ck xs ∧ Bs w Av nv cv ys ∧ Bs w Bk mk dk xs' ∧ Bs w Bv mv dv ys') :
    Calls Try.prog 85 #[.agg #[.slice Ak nk ck, .slice Av nv cv, .int .i64 s, .int .i64 r], .agg #[.slice Bk mk dk, .slice Bv mv dv, .int .i64 s', .int .i64 r']] w fun e w' => e = .returned (.bool (sameB xs ys xs' ys' s r s' r')) ∧ Below w.heap.size w w' := by
  have HB := Aside0.mk hb
  have HW := Aside0.mk (((Below.refl w.heap.size w).alloc (Nat.le_refl _) (.cells #[.slice Ak nk ck, .slice Av nv cv, .int .i64 s, .int .i64 r] 96)).alloc (by simp) (.cells #[.slice Bk mk dk, .slice Bv mv dv, .int .i64 s', .int .i64 r'] 96))
  clear hb
  by_cases h1 : xs = xs'
  · have e1 := seq_t h1
    by_cases h2 : ys = ys'
    · have e2 := seq_t h2
      have h12 := Aside0.mk (And.intro h1 h2)
      clear h1 h2
      by_cases h3 : s = s'
      · have e3 : (s == s') = true := beq_t h3
        have h3' := Aside0.mk h3
        clear h3
        have HV := Aside0.mk (show sameB xs ys xs' ys' s r s' r' = decide (r = r') from by unfold sameB; apply decide_eq_decide.2; exact ⟨fun h => h.2.2.2, fun h => ⟨h12.out.1, h12.out.2, h3'.out, h⟩⟩)
        go_enter Try.func85, Try.ntmps85
        go_wp2_with (first | (go_at_call 20; first | (with_reducible refine (equal8_any Ak nk ck xs Bk mk dk xs' _ (HB.out.1.below HW.out) (HB.out.2.2.1.below HW.out)).mono ?_; rintro e w1 ⟨rfl, rfl⟩; rw [e1]) | (with_reducible refine (equal8_any Av nv cv ys Bv mv dv ys' _ (HB.out.2.1.below HW.out) (HB.out.2.2.2.below HW.out)).mono ?_; rintro e w1 ⟨rfl, rfl⟩; rw [e2])))
        go_ret
        exact ⟨ret_bool (by rw [HV.out]; first | done | rfl | (rw [Bool.eq_iff_iff]; simp)), HW.out⟩
      · have e3 : (s == s') = false := beq_f h3
        have HV := Aside0.mk (show sameB xs ys xs' ys' s r s' r' = false from by unfold sameB; exact decide_eq_false (fun h => h3 h.2.2.1))
        go_enter Try.func85, Try.ntmps85
        go_wp2_with (first | (go_at_call 20; first | (with_reducible refine (equal8_any Ak nk ck xs Bk mk dk xs' _ (HB.out.1.below HW.out) (HB.out.2.2.1.below HW.out)).mono ?_; rintro e w1 ⟨rfl, rfl⟩; rw [e1]) | (with_reducible refine (equal8_any Av nv cv ys Bv mv dv ys' _ (HB.out.2.1.below HW.out) (HB.out.2.2.2.below HW.out)).mono ?_; rintro e w1 ⟨rfl, rfl⟩; rw [e2])))
        go_ret
        exact ⟨ret_bool (by rw [HV.out]; first | done | rfl | (rw [Bool.eq_iff_iff]; simp)), HW.out⟩
    · have e2 := seq_f h2
      have HV := Aside0.mk (show sameB xs ys xs' ys' s r s' r' = false from by unfold sameB; exact decide_eq_false (fun h => h2 h.2.1))
      go_enter Try.func85, Try.ntmps85
      go_wp2_with (first | (go_at_call 20; first | (with_reducible refine (equal8_any Ak nk ck xs Bk mk dk xs' _ (HB.out.1.below HW.out) (HB.out.2.2.1.below HW.out)).mono ?_; rintro e w1 ⟨rfl, rfl⟩; rw [e1]) | (with_reducible refine (equal8_any Av nv cv ys Bv mv dv ys' _ (HB.out.2.1.below HW.out) (HB.out.2.2.2.below HW.out)).mono ?_; rintro e w1 ⟨rfl, rfl⟩; rw [e2])))
      go_ret
      exact ⟨ret_bool (by rw [HV.out]; first | done | rfl | (rw [Bool.eq_iff_iff]; simp)), HW.out⟩
  · have e1 := seq_f h1
    have HV := Aside0.mk (show sameB xs ys xs' ys' s r s' r' = false from by unfold sameB; exact decide_eq_false (fun h => h1 h.1))
    go_enter Try.func85, Try.ntmps85
    go_wp2_with (first | (go_at_call 20; first | (with_reducible refine (equal8_any Ak nk ck xs Bk mk dk xs' _ (HB.out.1.below HW.out) (HB.out.2.2.1.below HW.out)).mono ?_; rintro e w1 ⟨rfl, rfl⟩; rw [e1]) | (with_reducible refine (equal8_any Av nv cv ys Bv mv dv ys' _ (HB.out.2.1.below HW.out) (HB.out.2.2.2.below HW.out)).mono ?_; rintro e w1 ⟨rfl, rfl⟩; rw [e2])))
    go_ret
    exact ⟨ret_bool (by rw [HV.out]; first | done | rfl | (rw [Bool.eq_iff_iff]; simp)), HW.out⟩

end Go.Proofs.Ytbjfklgmbeaaoaa

set_option linter.unusedVariables false
set_option linter.unusedSimpArgs false
namespace Go.Proofs.Ytbjfklgmbeaaoaa
open Go.RowKit

set_option maxHeartbeats 1000000 in
theorem trait_any (g a b c : Int) (w : World) : Calls Try.prog 44 #[.int .i64 g, .int .i64 a, .int .i64 b, .int .i64 c] w fun e w' => e = .returned (.int .i64 (gen3 g a b c)) ∧ w = w' := by
  by_cases h1 : g = 1
  · subst h1
    go_enter Try.func44, Try.ntmps44
    go_wp2
    go_ret
    exact ⟨rfl, rfl⟩
  have e1 : (g == 1) = false := beq_f h1
  by_cases h2 : g = 2
  · subst h2
    go_enter Try.func44, Try.ntmps44
    go_wp2
    go_ret
    exact ⟨rfl, rfl⟩
  have e2 : (g == 2) = false := beq_f h2
  by_cases h3 : g = 3
  · subst h3
    go_enter Try.func44, Try.ntmps44
    go_wp2
    go_ret
    exact ⟨rfl, rfl⟩
  have e3 : (g == 3) = false := beq_f h3
  have hv := Aside0.mk (show gen3 g a b c = 0 by unfold gen3; rw [if_neg h1, if_neg h2, if_neg h3])
  clear h1 h2 h3
  go_enter Try.func44, Try.ntmps44
  go_wp2
  go_ret
  exact ⟨ret_int hv.out.symm, rfl⟩
set_option maxHeartbeats 1000000 in
theorem rMaxKey_any (g : Int) (w : World) : Calls Try.prog 107 #[.int .i64 g] w fun e w' => e = .returned (.int .i64 (mkI g)) ∧ w = w' := by
  go_enter Try.func107, Try.ntmps107
  go_wp2_with (go_at_call 44; refine (trait_any _ _ _ _ _).mono ?_; rintro e w1 ⟨rfl, rfl⟩)
  go_ret
  exact ⟨rfl, rfl⟩
set_option maxHeartbeats 1000000 in
theorem rMaxValue_any (g : Int) (w : World) : Calls Try.prog 45 #[.int .i64 g] w fun e w' => e = .returned (.int .i64 (mvI g)) ∧ w = w' := by
  go_enter Try.func45, Try.ntmps45
  go_wp2_with (go_at_call 44; refine (trait_any _ _ _ _ _).mono ?_; rintro e w1 ⟨rfl, rfl⟩)
  go_ret
  exact ⟨rfl, rfl⟩
set_option maxHeartbeats 1000000 in
theorem rIdWidth_any (g : Int) (w : World) : Calls Try.prog 67 #[.int .i64 g] w fun e w' => e = .returned (.int .i64 (iwI g)) ∧ w = w' := by
  go_enter Try.func67, Try.ntmps67
  go_wp2_with (go_at_call 44; refine (trait_any _ _ _ _ _).mono ?_; rintro e w1 ⟨rfl, rfl⟩)
  go_ret
  exact ⟨rfl, rfl⟩
set_option maxHeartbeats 1000000 in
theorem rCap_any (g : Int) (w : World) : Calls Try.prog 14 #[.int .i64 g] w fun e w' => e = .returned (.int .i64 (cpI g)) ∧ w = w' := by
  go_enter Try.func14, Try.ntmps14
  go_wp2_with (go_at_call 44; refine (trait_any _ _ _ _ _).mono ?_; rintro e w1 ⟨rfl, rfl⟩)
  go_ret
  exact ⟨rfl, rfl⟩
set_option maxHeartbeats 1000000 in
set_option maxRecDepth 100000 in
theorem rfar_any (Ak : Option Addr) (nk ck : Nat) (Av : Option Addr) (nv cv : Nat) (s r : Int) (w : World) :
    Calls Try.prog 139 #[.agg #[.slice Ak nk ck, .slice Av nv cv, .int .i64 s, .int .i64 r]] w fun e w' => e = .returned (.bool (farB nv r)) ∧ Below w.heap.size w w' := by
  by_cases h : r = 0
  · subst h
    go_enter Try.func139, Try.ntmps139
    go_wp2
    go_ret
    exact ⟨ret_bool (by unfold farB; rw [Bool.eq_iff_iff]; simp; omega), (Below.refl _ _).alloc (Nat.le_refl _) _⟩
  · have h1 : (r == 0) = false := beq_f h
    have h2 : (r != 0) = true := bne_t h
    go_enter Try.func139, Try.ntmps139
    go_wp2
    go_ret
    exact ⟨ret_bool (by unfold farB; simp [h]), (Below.refl _ _).alloc (Nat.le_refl _) _⟩
theorem gen_lo {g : Int} (h : g < 1) : genB g = false := decide_eq_false (by omega)
theorem gen_hi {g : Int} (h : 3 < g) : genB g = false := decide_eq_false (by omega)
theorem gen_in {g : Int} (h : ¬ g < 1) (h2 : ¬ 3 < g) : genB g = true := decide_eq_true (by omega)
theorem dI_t {p : Prop} [Decidable p] (h : p) : decide p = true := decide_eq_true h
theorem dI_f {p : Prop} [Decidable p] (h : ¬ p) : decide p = false := decide_eq_false h
theorem why0 {g : Int} {nk nv : Nat} (hg : genB g = true) (h1 : ¬ nk = 0) (h2 : ¬ mkI g < (nk : Int)) : whyI g nk nv = 0 ↔ (nv : Int) ≤ mvI g := by
  unfold whyI
  rw [if_pos hg, if_neg (fun h => h.elim h1 h2)]
  by_cases h : mvI g < (nv : Int)
  · rw [if_pos h]; constructor <;> intro h' <;> omega
  · rw [if_neg h]; constructor <;> intro h' <;> omega
theorem right_no {g : Int} {nk nv : Nat} {s r : Int} (h : whyI g nk nv ≠ 0) : rightB g nk nv s r = false := by
  unfold rightB
  rw [decide_eq_false (fun k => h k.1), Bool.false_and]
theorem right_0 {g : Int} {nk nv : Nat} {s : Int} (hg : genB g = true) (h1 : ¬ nk = 0) (h2 : ¬ mkI g < (nk : Int)) : rightB g nk nv s 0 = decide (s = 0 ∧ (nv : Int) ≤ mvI g) := by
  unfold rightB longI
  rw [if_pos rfl, if_pos rfl, ← Bool.decide_and]
  apply decide_eq_decide.2
  rw [why0 hg h1 h2]
  constructor
  · rintro ⟨⟨a, b⟩, c⟩; exact ⟨c, a⟩
  · rintro ⟨a, b⟩; exact ⟨⟨b, b⟩, a⟩
theorem mv_nat {g : Int} : (0 : Int) ≤ mvI g := (mv_range g).1
theorem right_r {g : Int} {nk nv : Nat} {s r : Int} (hg : genB g = true) (h1 : ¬ nk = 0) (h2 : ¬ mkI g < (nk : Int)) (hr : ¬ r = 0) : rightB g nk nv s r = decide (1 < r ∧ r < 16384 ∧ nv = 0 ∧ 32 < s ∧ s ≤ mvI g) := by
  unfold rightB longI
  rw [if_neg hr, if_neg hr, ← Bool.decide_and]
  apply decide_eq_decide.2
  rw [why0 hg h1 h2]
  have := mv_nat (g := g)
  constructor
  · rintro ⟨⟨a, b⟩, c, d, e, f⟩; exact ⟨by omega, d, f, e, b⟩
  · rintro ⟨a, b, c, d, e⟩; exact ⟨⟨by omega, e⟩, by omega, b, d, c⟩
set_option maxHeartbeats 2000000 in
set_option maxRecDepth 100000 in
theorem rright_any (g : Int) (Ak : Option Addr) (nk ck : Nat) (Av : Option Addr) (nv cv : Nat) (s r : Int) (w : World) (hk : nk ≤ 140737488355328) (hv : nv ≤ 140737488355328) :
    Calls Try.prog 106 #[.int .i64 g, .agg #[.slice Ak nk ck, .slice Av nv cv, .int .i64 s, .int .i64 r]] w fun e w' => e = .returned (.bool (rightB g nk nv s r)) ∧ Below w.heap.size w w' := by
  by_cases h1 : g < 1
  · have f1 := dI_t h1
    have hg := Aside0.mk (gen_lo h1)
    have HV := Aside0.mk (show rightB g nk nv s r = false from by exact right_no (by unfold whyI; rw [if_neg (by simp [hg.out])]; decide))
    go_enter Try.func106, Try.ntmps106
    go_wp2
    have I0 := Aside0.mk (IRow.mk0 (Below.refl _ (w.alloc (.cells #[.slice Ak nk ck, .slice Av nv cv, .int .i64 s, .int .i64 r] 119))))
    have k0 := cell_ext I0.out.cells.1
    refine wp_region_ext (by kernel_rfl) (by kernel_rfl) ?_
    repeat (go_big_quiet_step ((first | (go_at_call 107; exact Calls.ext_same (rMaxKey_any _ _)) | (go_at_call 45; exact Calls.ext_same (rMaxValue_any _ _)))))
    refine wpQuiet_nil ?_
    rintro w1 ⟨kx1, rfl⟩
    have I1 := Aside0.mk (I0.out.step kx1.bel)
    obtain ⟨c0, c1, c2, c3⟩ := I1.out.cells
    go_wp2
    go_ret
    exact ⟨ret_bool (by rw [HV.out]; first | done | rfl | (rw [Bool.eq_iff_iff]; simp)), I1.out.bel⟩
  have f1 := dI_f h1
  by_cases h2 : 3 < g
  · have f2 := dI_t h2
    have hg := Aside0.mk (gen_hi h2)
    have HV := Aside0.mk (show rightB g nk nv s r = false from by exact right_no (by unfold whyI; rw [if_neg (by simp [hg.out])]; decide))
    go_enter Try.func106, Try.ntmps106
    go_wp2
    have I0 := Aside0.mk (IRow.mk0 (Below.refl _ (w.alloc (.cells #[.slice Ak nk ck, .slice Av nv cv, .int .i64 s, .int .i64 r] 119))))
    have k0 := cell_ext I0.out.cells.1
    refine wp_region_ext (by kernel_rfl) (by kernel_rfl) ?_
    repeat (go_big_quiet_step ((first | (go_at_call 107; exact Calls.ext_same (rMaxKey_any _ _)) | (go_at_call 45; exact Calls.ext_same (rMaxValue_any _ _)))))
    refine wpQuiet_nil ?_
    rintro w1 ⟨kx1, rfl⟩
    have I1 := Aside0.mk (I0.out.step kx1.bel)
    obtain ⟨c0, c1, c2, c3⟩ := I1.out.cells
    go_wp2
    go_ret
    exact ⟨ret_bool (by rw [HV.out]; first | done | rfl | (rw [Bool.eq_iff_iff]; simp)), I1.out.bel⟩
  have f2 := dI_f h2
  have hg := Aside0.mk (gen_in h1 h2)
  by_cases h3 : nk = 0
  · have h3' := Aside0.mk h3
    have f3 : decide ((nk : Int) < 1) = true := dI_t (by omega)
    clear h3
    have HV := Aside0.mk (show rightB g nk nv s r = false from by exact right_no (by unfold whyI; rw [if_pos hg.out, if_pos (.inl h3'.out)]; decide))
    go_enter Try.func106, Try.ntmps106
    go_wp2
    have I0 := Aside0.mk (IRow.mk0 (Below.refl _ (w.alloc (.cells #[.slice Ak nk ck, .slice Av nv cv, .int .i64 s, .int .i64 r] 119))))
    have k0 := cell_ext I0.out.cells.1
    refine wp_region_ext (by kernel_rfl) (by kernel_rfl) ?_
    repeat (go_big_quiet_step ((first | (go_at_call 107; exact Calls.ext_same (rMaxKey_any _ _)) | (go_at_call 45; exact Calls.ext_same (rMaxValue_any _ _)))))
    refine wpQuiet_nil ?_
    rintro w1 ⟨kx1, rfl⟩
    have I1 := Aside0.mk (I0.out.step kx1.bel)
    obtain ⟨c0, c1, c2, c3⟩ := I1.out.cells
    go_wp2
    go_ret
    exact ⟨ret_bool (by rw [HV.out]; first | done | rfl | (rw [Bool.eq_iff_iff]; simp)), I1.out.bel⟩
  have f3 : decide ((nk : Int) < 1) = false := dI_f (by omega)
  have h3' := Aside0.mk h3
  clear h3
  by_cases h4 : mkI g < (nk : Int)
  · have f4 := dI_t h4
    have HV := Aside0.mk (show rightB g nk nv s r = false from by exact right_no (by unfold whyI; rw [if_pos hg.out, if_pos (.inr h4)]; decide))
    go_enter Try.func106, Try.ntmps106
    go_wp2
    have I0 := Aside0.mk (IRow.mk0 (Below.refl _ (w.alloc (.cells #[.slice Ak nk ck, .slice Av nv cv, .int .i64 s, .int .i64 r] 119))))
    have k0 := cell_ext I0.out.cells.1
    refine wp_region_ext (by kernel_rfl) (by kernel_rfl) ?_
    repeat (go_big_quiet_step ((first | (go_at_call 107; exact Calls.ext_same (rMaxKey_any _ _)) | (go_at_call 45; exact Calls.ext_same (rMaxValue_any _ _)))))
    refine wpQuiet_nil ?_
    rintro w1 ⟨kx1, rfl⟩
    have I1 := Aside0.mk (I0.out.step kx1.bel)
    obtain ⟨c0, c1, c2, c3⟩ := I1.out.cells
    go_wp2
    go_ret
    exact ⟨ret_bool (by rw [HV.out]; first | done | rfl | (rw [Bool.eq_iff_iff]; simp)), I1.out.bel⟩
  have f4 := dI_f h4
  have h4' := Aside0.mk h4
  clear h4
  by_cases h5 : r = 0
  · subst h5
    have hR := Aside0.mk (right_0 (nv := nv) (s := s) hg.out h3'.out h4'.out)
    by_cases h6 : s = 0
    · have f6 : (s == 0) = true := beq_t h6
      have h6' := Aside0.mk h6
      clear h6
      have HV := Aside0.mk (show rightB g nk nv s 0 = decide ((nv : Int) ≤ mvI g) from by rw [hR.out]; apply decide_eq_decide.2; exact ⟨fun h => h.2, fun h => ⟨h6'.out, h⟩⟩)
      go_enter Try.func106, Try.ntmps106
      go_wp2
      have I0 := Aside0.mk (IRow.mk0 (Below.refl _ (w.alloc (.cells #[.slice Ak nk ck, .slice Av nv cv, .int .i64 s, .int .i64 0] 119))))
      have k0 := cell_ext I0.out.cells.1
      refine wp_region_ext (by kernel_rfl) (by kernel_rfl) ?_
      repeat (go_big_quiet_step ((first | (go_at_call 107; exact Calls.ext_same (rMaxKey_any _ _)) | (go_at_call 45; exact Calls.ext_same (rMaxValue_any _ _)))))
      refine wpQuiet_nil ?_
      rintro w1 ⟨kx1, rfl⟩
      have I1 := Aside0.mk (I0.out.step kx1.bel)
      obtain ⟨c0, c1, c2, c3⟩ := I1.out.cells
      go_wp2
      have d1 := cell_ext c1
      have d2 := cell_ext c2
      have d3 := cell_ext c3
      refine wp_region_ext (by kernel_rfl) (by kernel_rfl) ?_
      repeat (go_big_quiet_step ((first | (go_at_call 107; exact Calls.ext_same (rMaxKey_any _ _)) | (go_at_call 45; exact Calls.ext_same (rMaxValue_any _ _)))))
      refine wpQuiet_nil ?_
      rintro w2 ⟨kx2, rfl⟩
      have I2 := Aside0.mk (I1.out.step kx2.bel)
      go_wp2
      go_ret
      exact ⟨ret_bool (by rw [HV.out]; first | done | rfl | (rw [Bool.eq_iff_iff]; simp)), I2.out.bel⟩
    · have f6 : (s == 0) = false := beq_f h6
      have HV := Aside0.mk (show rightB g nk nv s 0 = false from by rw [hR.out]; exact decide_eq_false (fun h => h6 h.1))
      go_enter Try.func106, Try.ntmps106
      go_wp2
      have I0 := Aside0.mk (IRow.mk0 (Below.refl _ (w.alloc (.cells #[.slice Ak nk ck, .slice Av nv cv, .int .i64 s, .int .i64 0] 119))))
      have k0 := cell_ext I0.out.cells.1
      refine wp_region_ext (by kernel_rfl) (by kernel_rfl) ?_
      repeat (go_big_quiet_step ((first | (go_at_call 107; exact Calls.ext_same (rMaxKey_any _ _)) | (go_at_call 45; exact Calls.ext_same (rMaxValue_any _ _)))))
      refine wpQuiet_nil ?_
      rintro w1 ⟨kx1, rfl⟩
      have I1 := Aside0.mk (I0.out.step kx1.bel)
      obtain ⟨c0, c1, c2, c3⟩ := I1.out.cells
      go_wp2
      have d1 := cell_ext c1
      have d2 := cell_ext c2
      have d3 := cell_ext c3
      refine wp_region_ext (by kernel_rfl) (by kernel_rfl) ?_
      repeat (go_big_quiet_step ((first | (go_at_call 107; exact Calls.ext_same (rMaxKey_any _ _)) | (go_at_call 45; exact Calls.ext_same (rMaxValue_any _ _)))))
      refine wpQuiet_nil ?_
      rintro w2 ⟨kx2, rfl⟩
      have I2 := Aside0.mk (I1.out.step kx2.bel)
      go_wp2
      go_ret
      exact ⟨ret_bool (by rw [HV.out]; first | done | rfl | (rw [Bool.eq_iff_iff]; simp)), I2.out.bel⟩
  · have f5 : (r == 0) = false := beq_f h5
    have hR := Aside0.mk (right_r (nv := nv) (s := s) hg.out h3'.out h4'.out h5)
    by_cases h6 : 1 < r
    · have f6 := dI_t h6
      by_cases h7 : r < 16384
      · have f7 := dI_t h7
        by_cases h8 : nv = 0
        · have f8 : ((nv : Int) == 0) = true := beq_t (by omega)
          have f8b : (nv == 0) = true := beq_iff_eq.mpr h8
          have h8' := Aside0.mk h8
          clear h8
          by_cases h9 : 32 < s
          · have f9 := dI_t h9
            have HV := Aside0.mk (show rightB g nk nv s r = decide (s ≤ mvI g) from by rw [hR.out]; apply decide_eq_decide.2; exact ⟨fun h => h.2.2.2.2, fun h => ⟨h6, h7, h8'.out, h9, h⟩⟩)
            go_enter Try.func106, Try.ntmps106
            go_wp2
            have I0 := Aside0.mk (IRow.mk0 (Below.refl _ (w.alloc (.cells #[.slice Ak nk ck, .slice Av nv cv, .int .i64 s, .int .i64 r] 119))))
            have k0 := cell_ext I0.out.cells.1
            refine wp_region_ext (by kernel_rfl) (by kernel_rfl) ?_
            repeat (go_big_quiet_step ((first | (go_at_call 107; exact Calls.ext_same (rMaxKey_any _ _)) | (go_at_call 45; exact Calls.ext_same (rMaxValue_any _ _)))))
            refine wpQuiet_nil ?_
            rintro w1 ⟨kx1, rfl⟩
            have I1 := Aside0.mk (I0.out.step kx1.bel)
            obtain ⟨c0, c1, c2, c3⟩ := I1.out.cells
            go_wp2
            have d1 := cell_ext c1
            have d2 := cell_ext c2
            have d3 := cell_ext c3
            refine wp_region_ext (by kernel_rfl) (by kernel_rfl) ?_
            repeat (go_big_quiet_step ((first | (go_at_call 107; exact Calls.ext_same (rMaxKey_any _ _)) | (go_at_call 45; exact Calls.ext_same (rMaxValue_any _ _)))))
            refine wpQuiet_nil ?_
            rintro w2 ⟨kx2, rfl⟩
            have I2 := Aside0.mk (I1.out.step kx2.bel)
            go_wp2
            go_ret
            exact ⟨ret_bool (by rw [HV.out]; first | done | rfl | (rw [Bool.eq_iff_iff]; simp)), I2.out.bel⟩
          · have f9 := dI_f h9
            have HV := Aside0.mk (show rightB g nk nv s r = false from by rw [hR.out]; exact decide_eq_false (fun h => h9 h.2.2.2.1))
            go_enter Try.func106, Try.ntmps106
            go_wp2
            have I0 := Aside0.mk (IRow.mk0 (Below.refl _ (w.alloc (.cells #[.slice Ak nk ck, .slice Av nv cv, .int .i64 s, .int .i64 r] 119))))
            have k0 := cell_ext I0.out.cells.1
            refine wp_region_ext (by kernel_rfl) (by kernel_rfl) ?_
            repeat (go_big_quiet_step ((first | (go_at_call 107; exact Calls.ext_same (rMaxKey_any _ _)) | (go_at_call 45; exact Calls.ext_same (rMaxValue_any _ _)))))
            refine wpQuiet_nil ?_
            rintro w1 ⟨kx1, rfl⟩
            have I1 := Aside0.mk (I0.out.step kx1.bel)
            obtain ⟨c0, c1, c2, c3⟩ := I1.out.cells
            go_wp2
            have d1 := cell_ext c1
            have d2 := cell_ext c2
            have d3 := cell_ext c3
            refine wp_region_ext (by kernel_rfl) (by kernel_rfl) ?_
            repeat (go_big_quiet_step ((first | (go_at_call 107; exact Calls.ext_same (rMaxKey_any _ _)) | (go_at_call 45; exact Calls.ext_same (rMaxValue_any _ _)))))
            refine wpQuiet_nil ?_
            rintro w2 ⟨kx2, rfl⟩
            have I2 := Aside0.mk (I1.out.step kx2.bel)
            go_wp2
            go_ret
            exact ⟨ret_bool (by rw [HV.out]; first | done | rfl | (rw [Bool.eq_iff_iff]; simp)), I2.out.bel⟩
        · have f8 : ((nv : Int) == 0) = false := beq_f (by omega)
          have f8b : (nv == 0) = false := beq_eq_false_iff_ne.mpr h8
          have HV := Aside0.mk (show rightB g nk nv s r = false from by rw [hR.out]; exact decide_eq_false (fun h => h8 h.2.2.1))
          go_enter Try.func106, Try.ntmps106
          go_wp2
          have I0 := Aside0.mk (IRow.mk0 (Below.refl _ (w.alloc (.cells #[.slice Ak nk ck, .slice Av nv cv, .int .i64 s, .int .i64 r] 119))))
          have k0 := cell_ext I0.out.cells.1
          refine wp_region_ext (by kernel_rfl) (by kernel_rfl) ?_
          repeat (go_big_quiet_step ((first | (go_at_call 107; exact Calls.ext_same (rMaxKey_any _ _)) | (go_at_call 45; exact Calls.ext_same (rMaxValue_any _ _)))))
          refine wpQuiet_nil ?_
          rintro w1 ⟨kx1, rfl⟩
          have I1 := Aside0.mk (I0.out.step kx1.bel)
          obtain ⟨c0, c1, c2, c3⟩ := I1.out.cells
          go_wp2
          have d1 := cell_ext c1
          have d2 := cell_ext c2
          have d3 := cell_ext c3
          refine wp_region_ext (by kernel_rfl) (by kernel_rfl) ?_
          repeat (go_big_quiet_step ((first | (go_at_call 107; exact Calls.ext_same (rMaxKey_any _ _)) | (go_at_call 45; exact Calls.ext_same (rMaxValue_any _ _)))))
          refine wpQuiet_nil ?_
          rintro w2 ⟨kx2, rfl⟩
          have I2 := Aside0.mk (I1.out.step kx2.bel)
          go_wp2
          go_ret
          exact ⟨ret_bool (by rw [HV.out]; first | done | rfl | (rw [Bool.eq_iff_iff]; simp)), I2.out.bel⟩
      · have f7 := dI_f h7
        have HV := Aside0.mk (show rightB g nk nv s r = false from by rw [hR.out]; exact decide_eq_false (fun h => h7 h.2.1))
        go_enter Try.func106, Try.ntmps106
        go_wp2
        have I0 := Aside0.mk (IRow.mk0 (Below.refl _ (w.alloc (.cells #[.slice Ak nk ck, .slice Av nv cv, .int .i64 s, .int .i64 r] 119))))
        have k0 := cell_ext I0.out.cells.1
        refine wp_region_ext (by kernel_rfl) (by kernel_rfl) ?_
        repeat (go_big_quiet_step ((first | (go_at_call 107; exact Calls.ext_same (rMaxKey_any _ _)) | (go_at_call 45; exact Calls.ext_same (rMaxValue_any _ _)))))
        refine wpQuiet_nil ?_
        rintro w1 ⟨kx1, rfl⟩
        have I1 := Aside0.mk (I0.out.step kx1.bel)
        obtain ⟨c0, c1, c2, c3⟩ := I1.out.cells
        go_wp2
        have d1 := cell_ext c1
        have d2 := cell_ext c2
        have d3 := cell_ext c3
        refine wp_region_ext (by kernel_rfl) (by kernel_rfl) ?_
        repeat (go_big_quiet_step ((first | (go_at_call 107; exact Calls.ext_same (rMaxKey_any _ _)) | (go_at_call 45; exact Calls.ext_same (rMaxValue_any _ _)))))
        refine wpQuiet_nil ?_
        rintro w2 ⟨kx2, rfl⟩
        have I2 := Aside0.mk (I1.out.step kx2.bel)
        go_wp2
        go_ret
        exact ⟨ret_bool (by rw [HV.out]; first | done | rfl | (rw [Bool.eq_iff_iff]; simp)), I2.out.bel⟩
    · have f6 := dI_f h6
      have HV := Aside0.mk (show rightB g nk nv s r = false from by rw [hR.out]; exact decide_eq_false (fun h => h6 h.1))
      go_enter Try.func106, Try.ntmps106
      go_wp2
      have I0 := Aside0.mk (IRow.mk0 (Below.refl _ (w.alloc (.cells #[.slice Ak nk ck, .slice Av nv cv, .int .i64 s, .int .i64 r] 119))))
      have k0 := cell_ext I0.out.cells.1
      refine wp_region_ext (by kernel_rfl) (by kernel_rfl) ?_
      repeat (go_big_quiet_step ((first | (go_at_call 107; exact Calls.ext_same (rMaxKey_any _ _)) | (go_at_call 45; exact Calls.ext_same (rMaxValue_any _ _)))))
      refine wpQuiet_nil ?_
      rintro w1 ⟨kx1, rfl⟩
      have I1 := Aside0.mk (I0.out.step kx1.bel)
      obtain ⟨c0, c1, c2, c3⟩ := I1.out.cells
      go_wp2
      have d1 := cell_ext c1
      have d2 := cell_ext c2
      have d3 := cell_ext c3
      refine wp_region_ext (by kernel_rfl) (by kernel_rfl) ?_
      repeat (go_big_quiet_step ((first | (go_at_call 107; exact Calls.ext_same (rMaxKey_any _ _)) | (go_at_call 45; exact Calls.ext_same (rMaxValue_any _ _)))))
      refine wpQuiet_nil ?_
      rintro w2 ⟨kx2, rfl⟩
      have I2 := Aside0.mk (I1.out.step kx2.bel)
      go_wp2
      go_ret
      exact ⟨ret_bool (by rw [HV.out]; first | done | rfl | (rw [Bool.eq_iff_iff]; simp)), I2.out.bel⟩

end Go.Proofs.Ytbjfklgmbeaaoaa

set_option linter.unusedVariables false
set_option linter.unusedSimpArgs false
namespace Go.Proofs.Ytbjfklgmbeaaoaa
open Go.RowKit

theorem below_eq {w w1 : World} {m : Nat} (h : w1 = w.drewN m) : Below w.heap.size w w1 := by
  rw [h]
  exact below_drawn (Below.refl _ _) m
theorem I0cells (w : World) (a b c d : Value) (T : TypeId) : (w.alloc (.cells #[a, b, c, d] T)).cell? ⟨w.heap.size, 0, none⟩ = some a ∧ (w.alloc (.cells #[a, b, c, d] T)).cell? ⟨w.heap.size, 1, none⟩ = some b ∧ (w.alloc (.cells #[a, b, c, d] T)).cell? ⟨w.heap.size, 2, none⟩ = some c ∧ (w.alloc (.cells #[a, b, c, d] T)).cell? ⟨w.heap.size, 3, none⟩ = some d :=
  (IRow.mk0 (Below.refl _ _)).cells
/-- Two boxed items, some steps on. -/
structure I2Row (w : World) (a b c d a' b' c' d' : Value) (T : TypeId) (W : World) : Prop where
  one : IRow w a b c d T W
  two : W.heap[w.heap.size + 1]? = some (.cells #[a', b', c', d'] T)
theorem I2Row.mk0 (w : World) (a b c d a' b' c' d' : Value) (T : TypeId) : I2Row w a b c d a' b' c' d' T ((w.alloc (.cells #[a, b, c, d] T)).alloc (.cells #[a', b', c', d'] T)) :=
  ⟨IRow.mk0 ((Below.refl _ _).alloc (Nat.le_refl _) _), by have := heap_alloc_new (w.alloc (.cells #[a, b, c, d] T)) (.cells #[a', b', c', d'] T); simpa using this⟩
theorem I2Row.step {w W W1 : World} {a b c d a' b' c' d' : Value} {T : TypeId} (h : I2Row w a b c d a' b' c' d' T W) (hB : Below W.heap.size W W1) : I2Row w a b c d a' b' c' d' T W1 := ⟨h.one.step hB, row_below h.two hB⟩
theorem I2Row.cells {w W : World} {a b c d a' b' c' d' : Value} {T : TypeId} (h : I2Row w a b c d a' b' c' d' T W) : W.cell? ⟨w.heap.size + 1, 0, none⟩ = some a' ∧ W.cell? ⟨w.heap.size + 1, 1, none⟩ = some b' ∧ W.cell? ⟨w.heap.size + 1, 2, none⟩ = some c' ∧ W.cell? ⟨w.heap.size + 1, 3, none⟩ = some d' := item_cells2 h.two
set_option maxHeartbeats 1000000 in
set_option maxRecDepth 100000 in
theorem rroom_any (g : Int) (Ak : Option Addr) (nk ck : Nat) (Av : Option Addr) (nv cv : Nat) (s r : Int) (w : World) (hk : nk ≤ 140737488355328) (hv : nv ≤ 140737488355328) :
    Calls Try.prog 138 #[.int .i64 g, .agg #[.slice Ak nk ck, .slice Av nv cv, .int .i64 s, .int .i64 r]] w fun e w' => e = .returned (.int .i64 (roomI g nk nv r)) ∧ Below w.heap.size w w' := by
  obtain ⟨r0, r1⟩ := iw_range g
  by_cases h1 : g < 1
  · have f1 := dI_t h1
    have HV := Aside0.mk (show roomI g nk nv r = 0 from by unfold roomI; rw [if_neg (by simp [gen_lo h1])])
    go_enter Try.func138, Try.ntmps138
    go_wp2
    go_ret
    exact ⟨ret_int HV.out.symm, (Below.refl _ _).alloc (Nat.le_refl _) _⟩
  have f1 := dI_f h1
  by_cases h2 : 3 < g
  · have f2 := dI_t h2
    have HV := Aside0.mk (show roomI g nk nv r = 0 from by unfold roomI; rw [if_neg (by simp [gen_hi h2])])
    go_enter Try.func138, Try.ntmps138
    go_wp2
    go_ret
    exact ⟨ret_int HV.out.symm, (Below.refl _ _).alloc (Nat.le_refl _) _⟩
  have f2 := dI_f h2
  have hg := Aside0.mk (gen_in h1 h2)
  have f0 := I0cells w (.slice Ak nk ck) (.slice Av nv cv) (.int .i64 s) (.int .i64 r) 119
  cases hf : farB nv r with
  | true =>
    have HV := Aside0.mk (show roomI g nk nv r = 4 + (nk : Int) + iwI g from by unfold roomI; rw [if_pos hg.out, if_pos hf])
    go_enter Try.func138, Try.ntmps138
    go_wp2_with (first | (go_at_call 139; refine (rfar_any Ak nk ck Av nv cv s r _).mono ?_; rintro e w1 ⟨rfl, hB1⟩; rw [hf]; (have I1 := Aside0.mk (IRow.mk0 hB1)); (obtain ⟨c0, c1, c2, c3⟩ := I1.out.cells); clear hB1) | (go_at_call 67; refine (rIdWidth_any _ _).mono ?_; rintro e w2 ⟨rfl, rfl⟩))
    go_ret
    exact ⟨ret_int (by rw [HV.out]; omega), I1.out.bel⟩
  | false =>
    have HV := Aside0.mk (show roomI g nk nv r = 4 + (nk : Int) + (nv : Int) from by unfold roomI; rw [if_pos hg.out, if_neg (by simp [hf])])
    go_enter Try.func138, Try.ntmps138
    go_wp2_with (first | (go_at_call 139; refine (rfar_any Ak nk ck Av nv cv s r _).mono ?_; rintro e w1 ⟨rfl, hB1⟩; rw [hf]; (have I1 := Aside0.mk (IRow.mk0 hB1)); (obtain ⟨c0, c1, c2, c3⟩ := I1.out.cells); clear hB1) | (go_at_call 67; refine (rIdWidth_any _ _).mono ?_; rintro e w2 ⟨rfl, rfl⟩))
    go_ret
    exact ⟨ret_int (by rw [HV.out]; omega), I1.out.bel⟩
set_option maxHeartbeats 2000000 in
set_option maxRecDepth 100000 in
theorem rsame_any (Ak : Option Addr) (nk ck : Nat) (xs : List UInt8) (Av : Option Addr) (nv cv : Nat) (ys : List UInt8) (s r : Int) (Bk : Option Addr) (mk dk : Nat) (xs' : List UInt8) (Bv : Option Addr) (mv dv : Nat) (ys' : List UInt8) (s' r' : Int) (w : World)
    (hb : Bs w Ak nk ck xs ∧ Bs w Av nv cv ys ∧ Bs w Bk mk dk xs' ∧ Bs w Bv mv dv ys') :
    Calls Try.prog 81 #[.agg #[.slice Ak nk ck, .slice Av nv cv, .int .i64 s, .int .i64 r], .agg #[.slice Bk mk dk, .slice Bv mv dv, .int .i64 s', .int .i64 r']] w fun e w' => e = .returned (.bool (sameB xs ys xs' ys' s r s' r')) ∧ Below w.heap.size w w' := by
  have HB := Aside0.mk hb
  have HW := Aside0.mk (I2Row.mk0 w (.slice Ak nk ck) (.slice Av nv cv) (.int .i64 s) (.int .i64 r) (.slice Bk mk dk) (.slice Bv mv dv) (.int .i64 s') (.int .i64 r') 119)
  clear hb
  by_cases h1 : xs = xs'
  · have g1 : (Lib.compareBytes xs xs' == 0) = true := beq_t ((cmp_eq0 _ _).2 h1)
    have h1' := Aside0.mk h1
    clear h1
    by_cases h2 : ys = ys'
    · have g2 : (Lib.compareBytes ys ys' == 0) = true := beq_t ((cmp_eq0 _ _).2 h2)
      have h12 := Aside0.mk (And.intro h1'.out h2)
      clear h2
      by_cases h3 : s = s'
      · have g3 : (s == s') = true := beq_t h3
        have h3' := Aside0.mk h3
        clear h3
        have HV := Aside0.mk (show sameB xs ys xs' ys' s r s' r' = decide (r = r') from by unfold sameB; apply decide_eq_decide.2; exact ⟨fun h => h.2.2.2, fun h => ⟨h12.out.1, h12.out.2, h3'.out, h⟩⟩)
        go_enter Try.func81, Try.ntmps81
        go_wp2_with (first | (go_at_call 82; first | ((with_reducible refine (rcompare_any Ak nk ck xs Bk mk dk xs' _ (HB.out.1.below HW.out.one.bel) (HB.out.2.2.1.below HW.out.one.bel)).mono ?_); rintro e w1 ⟨rfl, m1, hm1⟩; (have H1 := Aside0.mk (HW.out.step (below_eq hm1))); clear hm1; obtain ⟨c0, c1, c2, c3⟩ := H1.out.one.cells; obtain ⟨d0, d1, d2, d3⟩ := H1.out.cells) | ((with_reducible refine (rcompare_any Av nv cv ys Bv mv dv ys' _ (HB.out.2.1.below H1.out.one.bel) (HB.out.2.2.2.below H1.out.one.bel)).mono ?_); rintro e w2 ⟨rfl, m2, hm2⟩; (have H2 := Aside0.mk (H1.out.step (below_eq hm2))); clear hm2; obtain ⟨e0, e1, e2, e3⟩ := H2.out.one.cells; obtain ⟨f0, f1, f2, f3⟩ := H2.out.cells)))
        go_ret
        exact ⟨ret_bool (by rw [HV.out]; first | done | rfl | (rw [Bool.eq_iff_iff]; simp)), H2.out.one.bel⟩
      · have g3 : (s == s') = false := beq_f h3
        have HV := Aside0.mk (show sameB xs ys xs' ys' s r s' r' = false from by unfold sameB; exact decide_eq_false (fun h => h3 h.2.2.1))
        go_enter Try.func81, Try.ntmps81
        go_wp2_with (first | (go_at_call 82; first | ((with_reducible refine (rcompare_any Ak nk ck xs Bk mk dk xs' _ (HB.out.1.below HW.out.one.bel) (HB.out.2.2.1.below HW.out.one.bel)).mono ?_); rintro e w1 ⟨rfl, m1, hm1⟩; (have H1 := Aside0.mk (HW.out.step (below_eq hm1))); clear hm1; obtain ⟨c0, c1, c2, c3⟩ := H1.out.one.cells; obtain ⟨d0, d1, d2, d3⟩ := H1.out.cells) | ((with_reducible refine (rcompare_any Av nv cv ys Bv mv dv ys' _ (HB.out.2.1.below H1.out.one.bel) (HB.out.2.2.2.below H1.out.one.bel)).mono ?_); rintro e w2 ⟨rfl, m2, hm2⟩; (have H2 := Aside0.mk (H1.out.step (below_eq hm2))); clear hm2; obtain ⟨e0, e1, e2, e3⟩ := H2.out.one.cells; obtain ⟨f0, f1, f2, f3⟩ := H2.out.cells)))
        go_ret
        exact ⟨ret_bool (by rw [HV.out]; first | done | rfl | (rw [Bool.eq_iff_iff]; simp)), H2.out.one.bel⟩
    · have g2 : (Lib.compareBytes ys ys' == 0) = false := beq_f (fun h => h2 ((cmp_eq0 _ _).1 h))
      have HV := Aside0.mk (show sameB xs ys xs' ys' s r s' r' = false from by unfold sameB; exact decide_eq_false (fun h => h2 h.2.1))
      go_enter Try.func81, Try.ntmps81
      go_wp2_with (first | (go_at_call 82; first | ((with_reducible refine (rcompare_any Ak nk ck xs Bk mk dk xs' _ (HB.out.1.below HW.out.one.bel) (HB.out.2.2.1.below HW.out.one.bel)).mono ?_); rintro e w1 ⟨rfl, m1, hm1⟩; (have H1 := Aside0.mk (HW.out.step (below_eq hm1))); clear hm1; obtain ⟨c0, c1, c2, c3⟩ := H1.out.one.cells; obtain ⟨d0, d1, d2, d3⟩ := H1.out.cells) | ((with_reducible refine (rcompare_any Av nv cv ys Bv mv dv ys' _ (HB.out.2.1.below H1.out.one.bel) (HB.out.2.2.2.below H1.out.one.bel)).mono ?_); rintro e w2 ⟨rfl, m2, hm2⟩; (have H2 := Aside0.mk (H1.out.step (below_eq hm2))); clear hm2; obtain ⟨e0, e1, e2, e3⟩ := H2.out.one.cells; obtain ⟨f0, f1, f2, f3⟩ := H2.out.cells)))
      go_ret
      exact ⟨ret_bool (by rw [HV.out]; first | done | rfl | (rw [Bool.eq_iff_iff]; simp)), H2.out.one.bel⟩
  · have g1 : (Lib.compareBytes xs xs' == 0) = false := beq_f (fun h => h1 ((cmp_eq0 _ _).1 h))
    have HV := Aside0.mk (show sameB xs ys xs' ys' s r s' r' = false from by unfold sameB; exact decide_eq_false (fun h => h1 h.1))
    go_enter Try.func81, Try.ntmps81
    go_wp2_with (first | (go_at_call 82; first | ((with_reducible refine (rcompare_any Ak nk ck xs Bk mk dk xs' _ (HB.out.1.below HW.out.one.bel) (HB.out.2.2.1.below HW.out.one.bel)).mono ?_); rintro e w1 ⟨rfl, m1, hm1⟩; (have H1 := Aside0.mk (HW.out.step (below_eq hm1))); clear hm1; obtain ⟨c0, c1, c2, c3⟩ := H1.out.one.cells; obtain ⟨d0, d1, d2, d3⟩ := H1.out.cells) | ((with_reducible refine (rcompare_any Av nv cv ys Bv mv dv ys' _ (HB.out.2.1.below H1.out.one.bel) (HB.out.2.2.2.below H1.out.one.bel)).mono ?_); rintro e w2 ⟨rfl, m2, hm2⟩; (have H2 := Aside0.mk (H1.out.step (below_eq hm2))); clear hm2; obtain ⟨e0, e1, e2, e3⟩ := H2.out.one.cells; obtain ⟨f0, f1, f2, f3⟩ := H2.out.cells)))
    go_ret
    exact ⟨ret_bool (by rw [HV.out]; first | done | rfl | (rw [Bool.eq_iff_iff]; simp)), H1.out.one.bel⟩
def fewB (nk nv : Nat) : Bool := decide (nk ≤ 100 ∧ nv ≤ 2000)
end Go.Proofs.Ytbjfklgmbeaaoaa
