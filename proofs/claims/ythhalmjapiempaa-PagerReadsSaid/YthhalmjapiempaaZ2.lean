/- The walks of item's small functions: what a generation has. The walks of item's small functions, over what a generation has. The walks of item's functions over an item: Far, Long, KidRoom, Room, Right, Of. bytes.Compare, by the model's own entry. The walks of item.Of and item.Same. The walks of the reference's functions of layer 5. -/
import Derived.Test.YthhalmjapiempaaZ1
import Derived.Lib.BytesEntry
import Derived.Lib.Bytealg
import Derived.Laws.Externs
set_option linter.unusedVariables false
set_option linter.unusedSimpArgs false
namespace Go.Proofs.Ythhalmjapiempaa
open Go.RowKit

theorem beq_t {a b : Int} (h : a = b) : (a == b) = true := beq_iff_eq.mpr h
theorem beq_f {a b : Int} (h : ¬ a = b) : (a == b) = false := beq_eq_false_iff_ne.mpr h
theorem bne_t {a b : Int} (h : ¬ a = b) : (a != b) = true := bne_iff_ne.mpr h
theorem bne_f {a b : Int} (h : a = b) : (a != b) = false := bne_eq_false_iff_eq.mpr h

def gen3 (g a b c : Int) : Int := if g = 1 then a else if g = 2 then b else if g = 3 then c else 0
def genB (g : Int) : Bool := decide (1 ≤ g ∧ g ≤ 3)
def mkI (g : Int) : Int := gen3 g 16 20 24
def mvI (g : Int) : Int := gen3 g 400 800 1600
def iwI (g : Int) : Int := gen3 g 4 8 8
def hdI (g : Int) : Int := gen3 g 8 16 16
def cpI (g : Int) : Int := gen3 g 248 240 240
theorem gen_cases (g : Int) : g = 1 ∨ g = 2 ∨ g = 3 ∨ (¬ (1 ≤ g ∧ g ≤ 3)) := by omega
theorem gen3_none {g a b c : Int} (h : ¬ (1 ≤ g ∧ g ≤ 3)) : gen3 g a b c = 0 := by
  unfold gen3
  rw [if_neg (by omega), if_neg (by omega), if_neg (by omega)]

set_option maxHeartbeats 1000000 in
theorem gen_any (g : Int) (w : World) : Calls Try.prog 99 #[.int .i64 g] w fun e w' => e = .returned (.bool (genB g)) ∧ w = w' := by
  by_cases h1 : 1 ≤ g
  · have h1' : decide (1 ≤ g) = true := decide_eq_true h1
    go_enter Try.func99, Try.ntmps99
    go_wp2
    go_ret
    exact ⟨ret_bool (by unfold genB; apply decide_eq_decide.2; omega), rfl⟩
  · have h1' : decide (1 ≤ g) = false := decide_eq_false h1
    go_enter Try.func99, Try.ntmps99
    go_wp2
    go_ret
    exact ⟨ret_bool (by unfold genB; symm; apply decide_eq_false; omega), rfl⟩

theorem itix1 (W : World) : (Instr.index 163 (.agg #[.int .i64 16, .int .i64 400, .int .i64 4, .int .i64 8, .int .i64 20, .int .i64 800, .int .i64 8, .int .i64 16, .int .i64 24, .int .i64 1600, .int .i64 8, .int .i64 16]) (.int .i64 0)).run Try.prog W = .ok (.agg #[.int .i64 16, .int .i64 400, .int .i64 4, .int .i64 8]) W := by kernel_rfl
theorem itix2 (W : World) : (Instr.index 163 (.agg #[.int .i64 16, .int .i64 400, .int .i64 4, .int .i64 8, .int .i64 20, .int .i64 800, .int .i64 8, .int .i64 16, .int .i64 24, .int .i64 1600, .int .i64 8, .int .i64 16]) (.int .i64 1)).run Try.prog W = .ok (.agg #[.int .i64 20, .int .i64 800, .int .i64 8, .int .i64 16]) W := by kernel_rfl
theorem itix3 (W : World) : (Instr.index 163 (.agg #[.int .i64 16, .int .i64 400, .int .i64 4, .int .i64 8, .int .i64 20, .int .i64 800, .int .i64 8, .int .i64 16, .int .i64 24, .int .i64 1600, .int .i64 8, .int .i64 16]) (.int .i64 2)).run Try.prog W = .ok (.agg #[.int .i64 24, .int .i64 1600, .int .i64 8, .int .i64 16]) W := by kernel_rfl
set_option maxHeartbeats 1000000 in
theorem itof_any (g : Int) (w : World) : Calls Try.prog 91 #[.int .i64 g] w fun e w' => e = .returned (.agg #[.int .i64 (mkI g), .int .i64 (mvI g), .int .i64 (iwI g), .int .i64 (hdI g)]) ∧ Below w.heap.size w w' := by
  rcases gen_cases g with rfl | rfl | rfl | h
  · have hg : genB 1 = true := rfl
    have hix := fun W => itix1 W
    go_enter Try.func91, Try.ntmps91
    go_wp2_with (go_at_call 99; refine (gen_any _ _).mono ?_; rintro e w1 ⟨rfl, rfl⟩; rw [hg])
    refine bodyPost_ret (v := .agg #[.int .i64 16, .int .i64 400, .int .i64 4, .int .i64 8]) (by simp [results, Try.results91, go_sem]) rfl ⟨rfl, (Below.refl _ _).alloc (Nat.le_refl _) _⟩
  · have hg : genB 2 = true := rfl
    have hix := fun W => itix2 W
    go_enter Try.func91, Try.ntmps91
    go_wp2_with (go_at_call 99; refine (gen_any _ _).mono ?_; rintro e w1 ⟨rfl, rfl⟩; rw [hg])
    refine bodyPost_ret (v := .agg #[.int .i64 20, .int .i64 800, .int .i64 8, .int .i64 16]) (by simp [results, Try.results91, go_sem]) rfl ⟨rfl, (Below.refl _ _).alloc (Nat.le_refl _) _⟩
  · have hg : genB 3 = true := rfl
    have hix := fun W => itix3 W
    go_enter Try.func91, Try.ntmps91
    go_wp2_with (go_at_call 99; refine (gen_any _ _).mono ?_; rintro e w1 ⟨rfl, rfl⟩; rw [hg])
    refine bodyPost_ret (v := .agg #[.int .i64 24, .int .i64 1600, .int .i64 8, .int .i64 16]) (by simp [results, Try.results91, go_sem]) rfl ⟨rfl, (Below.refl _ _).alloc (Nat.le_refl _) _⟩
  · have hg : genB g = false := by unfold genB; exact decide_eq_false h
    have e1 : mkI g = 0 := gen3_none h
    have e2 : mvI g = 0 := gen3_none h
    have e3 : iwI g = 0 := gen3_none h
    have e4 : hdI g = 0 := gen3_none h
    rw [e1, e2, e3, e4]
    clear e1 e2 e3 e4
    go_enter Try.func91, Try.ntmps91
    go_wp2_with (go_at_call 99; refine (gen_any _ _).mono ?_; rintro e w1 ⟨rfl, rfl⟩; rw [hg])
    refine bodyPost_ret (v := .agg #[.int .i64 0, .int .i64 0, .int .i64 0, .int .i64 0]) (by simp [results, Try.results91, go_sem]) rfl ⟨rfl, (Below.refl _ _).alloc (Nat.le_refl _) _⟩

end Go.Proofs.Ythhalmjapiempaa

set_option linter.unusedVariables false
set_option linter.unusedSimpArgs false
namespace Go.Proofs.Ythhalmjapiempaa
open Go.RowKit

theorem itf (W : World) (a b c d : Int) : (Instr.field 154 (.agg #[.int .i64 a, .int .i64 b, .int .i64 c, .int .i64 d]) 0).run Try.prog W = .ok (.int .i64 a) W ∧
    (Instr.field 154 (.agg #[.int .i64 a, .int .i64 b, .int .i64 c, .int .i64 d]) 1).run Try.prog W = .ok (.int .i64 b) W ∧
    (Instr.field 154 (.agg #[.int .i64 a, .int .i64 b, .int .i64 c, .int .i64 d]) 2).run Try.prog W = .ok (.int .i64 c) W ∧
    (Instr.field 154 (.agg #[.int .i64 a, .int .i64 b, .int .i64 c, .int .i64 d]) 3).run Try.prog W = .ok (.int .i64 d) W := ⟨by kernel_rfl, by kernel_rfl, by kernel_rfl, by kernel_rfl⟩

set_option maxHeartbeats 1000000 in
set_option maxRecDepth 100000 in
theorem maxKey_any (g : Int) (w : World) : Calls Try.prog 101 #[.int .i64 g] w fun e w' => e = .returned (.int .i64 (mkI g)) ∧ Below w.heap.size w w' := by
  have hf := fun W a b c d => itf W a b c d
  go_enter Try.func101, Try.ntmps101
  go_wp2_with (go_at_call 91; refine (itof_any _ _).mono ?_; rintro e w1 ⟨rfl, hB⟩)
  go_ret
  exact ⟨rfl, hB⟩
set_option maxHeartbeats 1000000 in
set_option maxRecDepth 100000 in
theorem idWidth_any (g : Int) (w : World) : Calls Try.prog 69 #[.int .i64 g] w fun e w' => e = .returned (.int .i64 (iwI g)) ∧ Below w.heap.size w w' := by
  have hf := fun W a b c d => itf W a b c d
  go_enter Try.func69, Try.ntmps69
  go_wp2_with (go_at_call 91; refine (itof_any _ _).mono ?_; rintro e w1 ⟨rfl, hB⟩)
  go_ret
  exact ⟨rfl, hB⟩
theorem gen3_range (g a b c : Int) (ha : 0 ≤ a ∧ a ≤ 2000) (hb : 0 ≤ b ∧ b ≤ 2000) (hc : 0 ≤ c ∧ c ≤ 2000) : 0 ≤ gen3 g a b c ∧ gen3 g a b c ≤ 2000 := by
  unfold gen3
  split
  · exact ha
  · split
    · exact hb
    · split
      · exact hc
      · omega
theorem mk_range (g : Int) : 0 ≤ mkI g ∧ mkI g ≤ 2000 := gen3_range g _ _ _ (by omega) (by omega) (by omega)
theorem mv_range (g : Int) : 0 ≤ mvI g ∧ mvI g ≤ 2000 := gen3_range g _ _ _ (by omega) (by omega) (by omega)
theorem iw_range (g : Int) : 0 ≤ iwI g ∧ iwI g ≤ 2000 := gen3_range g _ _ _ (by omega) (by omega) (by omega)
theorem hd_range (g : Int) : 0 ≤ hdI g ∧ hdI g ≤ 2000 := gen3_range g _ _ _ (by omega) (by omega) (by omega)
theorem cp_hd (g : Int) (h : genB g = true) : 256 - hdI g = cpI g := by
  unfold genB at h
  have h := of_decide_eq_true h
  have : g = 1 ∨ g = 2 ∨ g = 3 := by omega
  rcases this with rfl | rfl | rfl <;> rfl
theorem cp_none (g : Int) (h : genB g = false) : cpI g = 0 := by
  unfold genB at h
  exact gen3_none (of_decide_eq_false h)

/-- Why a key and a value may not be, by their lengths. -/
def whyI (g : Int) (nk nv : Nat) : Int := if genB g = true then (if nk = 0 ∨ mkI g < (nk : Int) then 50 else if mvI g < (nv : Int) then 51 else 0) else 1

end Go.Proofs.Ythhalmjapiempaa

set_option linter.unusedVariables false
set_option linter.unusedSimpArgs false
namespace Go.Proofs.Ythhalmjapiempaa
open Go.RowKit

theorem item_cells {w w1 : World} {T : TypeId} {fr : Nat × Nat} {a b c d : Value} (hB : Below (w.alloc (.cells #[a, b, c, d] T fr)).heap.size (w.alloc (.cells #[a, b, c, d] T fr)) w1) :
    w1.cell? ⟨w.heap.size, 0, none⟩ = some a ∧ w1.cell? ⟨w.heap.size, 1, none⟩ = some b ∧ w1.cell? ⟨w.heap.size, 2, none⟩ = some c ∧ w1.cell? ⟨w.heap.size, 3, none⟩ = some d :=
  ⟨cell_below hB (by rw [World.cell?_alloc_mark]; rfl), cell_below hB (by rw [World.cell?_alloc_mark]; rfl), cell_below hB (by rw [World.cell?_alloc_mark]; rfl), cell_below hB (by rw [World.cell?_alloc_mark]; rfl)⟩
theorem item_row {w w1 : World} {o : Obj} (hB : Below (w.alloc o).heap.size (w.alloc o) w1) : w1.heap[w.heap.size]? = some o := by
  rw [hB.block _ (by simp)]
  exact heap_alloc_new w o
theorem below_new {w w1 : World} {o : Obj} (hB : Below (w.alloc o).heap.size (w.alloc o) w1) : Below w.heap.size w w1 :=
  below_then ((Below.refl w.heap.size w).alloc (Nat.le_refl _) _) (by simp) hB
theorem item_cells2 {W : World} {g : Nat} {a b c d : Value} {fr : Nat × Nat} {T : TypeId} (hh : W.heap[g]? = some (.cells #[a, b, c, d] T fr)) :
    W.cell? ⟨g, 0, none⟩ = some a ∧ W.cell? ⟨g, 1, none⟩ = some b ∧ W.cell? ⟨g, 2, none⟩ = some c ∧ W.cell? ⟨g, 3, none⟩ = some d :=
  ⟨by rw [cell_of_row _ _ _ _ _ _ hh]; rfl, by rw [cell_of_row _ _ _ _ _ _ hh]; rfl, by rw [cell_of_row _ _ _ _ _ _ hh]; rfl, by rw [cell_of_row _ _ _ _ _ _ hh]; rfl⟩
theorem row_below {w w1 : World} {g : Nat} {o : Obj} (h : w.heap[g]? = some o) (hB : Below w.heap.size w w1) : w1.heap[g]? = some o := by
  rw [hB.block _ (Array.getElem?_eq_some_iff.1 h).1]
  exact h
/-- A boxed item, some steps on. -/
structure IRow (w : World) (a b c d : Value) (T : TypeId) (W : World) : Prop where
  row : W.heap[w.heap.size]? = some (.cells #[a, b, c, d] T)
  bel : Below w.heap.size w W
theorem IRow.mk0 {w w1 : World} {a b c d : Value} {T : TypeId} (hB : Below (w.alloc (.cells #[a, b, c, d] T)).heap.size (w.alloc (.cells #[a, b, c, d] T)) w1) : IRow w a b c d T w1 :=
  ⟨item_row hB, below_new hB⟩
theorem IRow.step {w W W1 : World} {a b c d : Value} {T : TypeId} (h : IRow w a b c d T W) (hB : Below W.heap.size W W1) : IRow w a b c d T W1 :=
  ⟨row_below h.row hB, below_then h.bel h.bel.size hB⟩
theorem IRow.thaw {w W : World} {a b c d : Value} {T : TypeId} (h : IRow w a b c d T W) (j : Nat) : W.frozen? ⟨w.heap.size, j, none⟩ = false := by simp [World.frozen?, h.row]
theorem IRow.cells {w W : World} {a b c d : Value} {T : TypeId} (h : IRow w a b c d T W) : W.cell? ⟨w.heap.size, 0, none⟩ = some a ∧ W.cell? ⟨w.heap.size, 1, none⟩ = some b ∧ W.cell? ⟨w.heap.size, 2, none⟩ = some c ∧ W.cell? ⟨w.heap.size, 3, none⟩ = some d := by
  exact item_cells2 h.row
def farB (nv : Nat) (r : Int) : Bool := !decide (r = 0) || decide (32 < (nv : Int))
def longI (nv : Nat) (s r : Int) : Int := if r = 0 then (nv : Int) else s
def kidI (g : Int) (nk : Nat) : Int := if genB g = true then 1 + (nk : Int) + iwI g else 0
def roomI (g : Int) (nk nv : Nat) (r : Int) : Int := if genB g = true then (if farB nv r = true then 4 + (nk : Int) + iwI g else 4 + (nk : Int) + (nv : Int)) else 0
/-- Which items may be. -/
def rightB (g : Int) (nk nv : Nat) (s r : Int) : Bool := decide (whyI g nk nv = 0 ∧ longI nv s r ≤ mvI g) && (if r = 0 then decide (s = 0) else decide (2 ≤ r ∧ r < 16384 ∧ 32 < s ∧ nv = 0))
end Go.Proofs.Ythhalmjapiempaa

set_option linter.unusedVariables false
set_option linter.unusedSimpArgs false
namespace Go.Proofs.Ythhalmjapiempaa
open Go.RowKit

theorem Bs.bytesOf {w : World} {A : Option Addr} {n c : Nat} {xs : List UInt8} (h : Bs w A n c xs) : (Extern.Bytes.bytesOf (.slice A n c)).run Try.prog w = .ok (strB xs) w := by
  have hn := h.len
  rcases A with _ | ad
  · have h0 : n = 0 := by
      rcases Nat.eq_zero_or_pos n with h0 | h0
      · exact h0
      · obtain ⟨ad, h', _⟩ := h.cells h0
        cases h'
    subst h0
    obtain rfl : xs = [] := List.eq_nil_of_length_eq_zero hn
    rfl
  · have := Lib.run_loadBytesX (P := Try.prog) w (xs.map fun x => (x.toNat : Int)) ad .empty (fun j x hj => by
      rw [List.getElem?_map] at hj
      cases hx : xs[j]? with
      | none => rw [hx] at hj; cases hj
      | some y =>
        rw [hx] at hj
        injection hj with hj
        obtain ⟨hl, he⟩ := List.getElem?_eq_some_iff.1 hx
        obtain ⟨ad', he', hc⟩ := h.cells (by omega)
        injection he' with he'
        subst he'
        rw [hc j (by omega)]
        simp [b8, List.getD_eq_getElem?_getD, hx, hj])
    rw [List.length_map, hn] at this
    have e : Lib.bytesOf (xs.map fun x => (x.toNat : Int)) = xs := by
      unfold Lib.bytesOf
      rw [List.map_map]
      exact (List.map_congr_left (fun x _ => by simp)).trans (List.map_id _)
    rw [e] at this
    refine Eq.trans this ?_
    congr 1
    unfold strB
    apply ByteArray.ext
    simp [ByteArray.empty, ByteArray.emptyWithCapacity]
    rfl
theorem dd2 (w : World) (a b : Nat) : (w.drewN a).drewN b = w.drewN (a + b) := by rw [World.drewN_drewN]
theorem dd3 (w : World) (a b c : Nat) : ((w.drewN a).drewN b).drewN c = w.drewN (a + b + c) := by rw [World.drewN_drewN, World.drewN_drewN, Nat.add_assoc]

/-! How two rows of bytes stand: the plain law -/
theorem cmp_opp (xs ys : List UInt8) : Lib.compareBytes ys xs = -Lib.compareBytes xs ys := by
  induction xs generalizing ys with
  | nil => cases ys <;> simp [Lib.compareBytes]
  | cons x xs ih =>
    cases ys with
    | nil => simp [Lib.compareBytes]
    | cons y ys =>
      simp only [Lib.compareBytes]
      by_cases h1 : x < y
      · have h2 : ¬ y < x := UInt8.lt_asymm h1
        simp [h1, h2]
      · by_cases h2 : y < x
        · simp [h1, h2]
        · simp [h1, h2, ih]
theorem cmp_three (xs ys : List UInt8) : Lib.compareBytes xs ys = -1 ∨ Lib.compareBytes xs ys = 0 ∨ Lib.compareBytes xs ys = 1 := by
  induction xs generalizing ys with
  | nil => cases ys <;> simp [Lib.compareBytes]
  | cons x xs ih =>
    cases ys with
    | nil => simp [Lib.compareBytes]
    | cons y ys =>
      simp only [Lib.compareBytes]
      split
      · exact .inl rfl
      · split
        · exact .inr (.inr rfl)
        · exact ih ys
theorem cmp_eq0 (xs ys : List UInt8) : Lib.compareBytes xs ys = 0 ↔ xs = ys := by
  induction xs generalizing ys with
  | nil => cases ys <;> simp [Lib.compareBytes]
  | cons x xs ih =>
    cases ys with
    | nil => simp [Lib.compareBytes]
    | cons y ys =>
      simp only [Lib.compareBytes]
      by_cases h1 : x < y
      · have : x ≠ y := fun e => UInt8.lt_irrefl y (e ▸ h1)
        simp [h1, this]
      · by_cases h2 : y < x
        · have : x ≠ y := fun e => UInt8.lt_irrefl y (e ▸ h2)
          simp [h1, h2, this]
        · have : x = y := UInt8.le_antisymm (UInt8.not_lt.1 h2) (UInt8.not_lt.1 h1)
          simp [h1, h2, this, ih]
theorem cmp_row (xs ys zs : List UInt8) (h1 : Lib.compareBytes xs ys ≤ 0) (h2 : Lib.compareBytes ys zs ≤ 0) : Lib.compareBytes xs zs ≤ 0 := by
  induction xs generalizing ys zs with
  | nil => cases zs <;> simp [Lib.compareBytes]
  | cons x xs ih =>
    cases ys with
    | nil => simp [Lib.compareBytes] at h1
    | cons y ys =>
      cases zs with
      | nil => simp [Lib.compareBytes] at h2
      | cons z zs =>
        simp only [Lib.compareBytes] at h1 h2 ⊢
        by_cases a1 : x < y
        · by_cases b1 : y < z
          · simp [UInt8.lt_trans a1 b1]
          · by_cases b2 : z < y
            · simp [b1, b2] at h2
            · have : y = z := UInt8.le_antisymm (UInt8.not_lt.1 b2) (UInt8.not_lt.1 b1)
              subst this
              simp [a1]
        · by_cases a2 : y < x
          · simp [a1, a2] at h1
          · have : x = y := UInt8.le_antisymm (UInt8.not_lt.1 a2) (UInt8.not_lt.1 a1)
            subst this
            by_cases b1 : x < z
            · simp [b1]
            · by_cases b2 : z < x
              · simp [b1, b2] at h2
              · simp only [a1, b1, b2, if_false] at h1 h2 ⊢
                exact ih ys zs h1 h2
theorem cmp_step (xs ys : List UInt8) (j : Nat) (h1 : j < xs.length) (h2 : j < ys.length) :
    Lib.compareBytes (xs.drop j) (ys.drop j) = if xs.getD j 0 < ys.getD j 0 then -1 else if ys.getD j 0 < xs.getD j 0 then 1 else Lib.compareBytes (xs.drop (j + 1)) (ys.drop (j + 1)) := by
  rw [List.drop_eq_getElem_cons h1, List.drop_eq_getElem_cons h2, Lib.compareBytes]
  simp [List.getD_eq_getElem?_getD, List.getElem?_eq_getElem h1, List.getElem?_eq_getElem h2]


end Go.Proofs.Ythhalmjapiempaa

set_option linter.unusedVariables false
set_option linter.unusedSimpArgs false
namespace Go.Proofs.Ythhalmjapiempaa
open Go.RowKit

theorem Ow.kept' {w w1 : World} {base n c : Nat} {A : Option Addr} {xs : List UInt8} (h : Ow w base A n c xs) (hb : ∀ g, base ≤ g → g < w.heap.size → w1.heap[g]? = w.heap[g]?) : Ow w1 base A n c xs := by
  refine ⟨⟨h.row.1, ?_⟩, h.lim⟩
  rcases h.row.2 with hn | ⟨g, cap, cur, hv, hg, hh, rest⟩
  · exact .inl hn
  · exact .inr ⟨g, cap, cur, hv, hg, by rw [hb g hg (Array.getElem?_eq_some_iff.1 hh).1]; exact hh, rest⟩
theorem set4 {w : World} {g k i0 i1 i2 i3 : Nat} {a b c d : Value} (h : g ≠ k) : ((((w.setCell ⟨k, i0, none⟩ a).setCell ⟨k, i1, none⟩ b).setCell ⟨k, i2, none⟩ c).setCell ⟨k, i3, none⟩ d).heap[g]? = w.heap[g]? := by
  rw [Below.heap_setCell _ _ _ _ h, Below.heap_setCell _ _ _ _ h, Below.heap_setCell _ _ _ _ h, Below.heap_setCell _ _ _ _ h]
def sameB (xs ys xs' ys' : List UInt8) (s r s' r' : Int) : Bool := decide (xs = xs' ∧ ys = ys' ∧ s = s' ∧ r = r')
theorem seq_t {xs ys : List UInt8} (h : xs = ys) : (xs == ys) = true := beq_iff_eq.mpr h
theorem seq_f {xs ys : List UInt8} (h : ¬ xs = ys) : (xs == ys) = false := beq_eq_false_iff_ne.mpr h
end Go.Proofs.Ythhalmjapiempaa

set_option linter.unusedVariables false
set_option linter.unusedSimpArgs false
namespace Go.Proofs.Ythhalmjapiempaa
open Go.RowKit

set_option maxHeartbeats 1000000 in
theorem trait_any (g a b c : Int) (w : World) : Calls Try.prog 86 #[.int .i64 g, .int .i64 a, .int .i64 b, .int .i64 c] w fun e w' => e = .returned (.int .i64 (gen3 g a b c)) ∧ w = w' := by
  by_cases h1 : g = 1
  · subst h1
    go_enter Try.func86, Try.ntmps86
    go_wp2
    go_ret
    exact ⟨rfl, rfl⟩
  have e1 : (g == 1) = false := beq_f h1
  by_cases h2 : g = 2
  · subst h2
    go_enter Try.func86, Try.ntmps86
    go_wp2
    go_ret
    exact ⟨rfl, rfl⟩
  have e2 : (g == 2) = false := beq_f h2
  by_cases h3 : g = 3
  · subst h3
    go_enter Try.func86, Try.ntmps86
    go_wp2
    go_ret
    exact ⟨rfl, rfl⟩
  have e3 : (g == 3) = false := beq_f h3
  have hv := Aside0.mk (show gen3 g a b c = 0 by unfold gen3; rw [if_neg h1, if_neg h2, if_neg h3])
  clear h1 h2 h3
  go_enter Try.func86, Try.ntmps86
  go_wp2
  go_ret
  exact ⟨ret_int hv.out.symm, rfl⟩
set_option maxHeartbeats 1000000 in
theorem rMaxKey_any (g : Int) (w : World) : Calls Try.prog 61 #[.int .i64 g] w fun e w' => e = .returned (.int .i64 (mkI g)) ∧ w = w' := by
  go_enter Try.func61, Try.ntmps61
  go_wp2_with (go_at_call 86; refine (trait_any _ _ _ _ _).mono ?_; rintro e w1 ⟨rfl, rfl⟩)
  go_ret
  exact ⟨rfl, rfl⟩
set_option maxHeartbeats 1000000 in
theorem rIdWidth_any (g : Int) (w : World) : Calls Try.prog 79 #[.int .i64 g] w fun e w' => e = .returned (.int .i64 (iwI g)) ∧ w = w' := by
  go_enter Try.func79, Try.ntmps79
  go_wp2_with (go_at_call 86; refine (trait_any _ _ _ _ _).mono ?_; rintro e w1 ⟨rfl, rfl⟩)
  go_ret
  exact ⟨rfl, rfl⟩
theorem gen_lo {g : Int} (h : g < 1) : genB g = false := decide_eq_false (by omega)
theorem gen_hi {g : Int} (h : 3 < g) : genB g = false := decide_eq_false (by omega)
theorem gen_in {g : Int} (h : ¬ g < 1) (h2 : ¬ 3 < g) : genB g = true := decide_eq_true (by omega)
theorem dI_t {p : Prop} [Decidable p] (h : p) : decide p = true := decide_eq_true h
theorem dI_f {p : Prop} [Decidable p] (h : ¬ p) : decide p = false := decide_eq_false h
theorem why0 {g : Int} {nk nv : Nat} (hg : genB g = true) (h1 : ¬ nk = 0) (h2 : ¬ mkI g < (nk : Int)) : whyI g nk nv = 0 ↔ (nv : Int) ≤ mvI g := by
  unfold whyI
  rw [if_pos hg, if_neg (fun h => h.elim h1 h2)]
  by_cases h : mvI g < (nv : Int)
  · rw [if_pos h]; constructor <;> intro h' <;> omega
  · rw [if_neg h]; constructor <;> intro h' <;> omega
theorem right_no {g : Int} {nk nv : Nat} {s r : Int} (h : whyI g nk nv ≠ 0) : rightB g nk nv s r = false := by
  unfold rightB
  rw [decide_eq_false (fun k => h k.1), Bool.false_and]
theorem right_0 {g : Int} {nk nv : Nat} {s : Int} (hg : genB g = true) (h1 : ¬ nk = 0) (h2 : ¬ mkI g < (nk : Int)) : rightB g nk nv s 0 = decide (s = 0 ∧ (nv : Int) ≤ mvI g) := by
  unfold rightB longI
  rw [if_pos rfl, if_pos rfl, ← Bool.decide_and]
  apply decide_eq_decide.2
  rw [why0 hg h1 h2]
  constructor
  · rintro ⟨⟨a, b⟩, c⟩; exact ⟨c, a⟩
  · rintro ⟨a, b⟩; exact ⟨⟨b, b⟩, a⟩
theorem mv_nat {g : Int} : (0 : Int) ≤ mvI g := (mv_range g).1
theorem right_r {g : Int} {nk nv : Nat} {s r : Int} (hg : genB g = true) (h1 : ¬ nk = 0) (h2 : ¬ mkI g < (nk : Int)) (hr : ¬ r = 0) : rightB g nk nv s r = decide (1 < r ∧ r < 16384 ∧ nv = 0 ∧ 32 < s ∧ s ≤ mvI g) := by
  unfold rightB longI
  rw [if_neg hr, if_neg hr, ← Bool.decide_and]
  apply decide_eq_decide.2
  rw [why0 hg h1 h2]
  have := mv_nat (g := g)
  constructor
  · rintro ⟨⟨a, b⟩, c, d, e, f⟩; exact ⟨by omega, d, f, e, b⟩
  · rintro ⟨a, b, c, d, e⟩; exact ⟨⟨by omega, e⟩, by omega, b, d, c⟩
end Go.Proofs.Ythhalmjapiempaa
