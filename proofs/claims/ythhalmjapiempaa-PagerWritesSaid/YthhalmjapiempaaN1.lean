/- A pager over a disk: New, Disk, Pages, Limit, Some, Page. -/
import Derived.Test.YthhalmjapiempaaZH
set_option linter.unusedVariables false
set_option linter.unusedSimpArgs false
namespace Go.Proofs.Ythhalmjapiempaa
open Go.RowKit

/-- A pager's own block. -/
def pgo (g : Nat) : Obj := .cells #[.pointer (some ⟨g, 0, none⟩)] 88
theorem pgo_cell {W : World} {g gp : Nat} (h : W.heap[gp]? = some (pgo g)) : W.cell? ⟨gp, 0, none⟩ = some (.pointer (some ⟨g, 0, none⟩)) := by
  unfold pgo at h
  rw [cell_of_row _ _ _ _ _ _ h]
  rfl
set_option maxHeartbeats 1000000 in
theorem pnew_none (w : World) : Calls Try.prog 13 #[.pointer none] w fun e w' => e = .returned (.pointer none) ∧ w = w' := by
  go_enter Try.func13, Try.ntmps13
  go_wp2
  go_ret
  exact ⟨rfl, rfl⟩
set_option maxHeartbeats 1000000 in
theorem pnew_h {w0 : World} {g : Nat} {R : List (Nat × Obj)} {d : DV} {W : World} (h : DH w0 g R d W) :
    Calls Try.prog 13 #[.pointer (some ⟨g, 0, none⟩)] W fun e w' => e = .returned (.pointer (some ⟨W.heap.size, 0, none⟩)) ∧ DH w0 g ((W.heap.size, pgo g) :: R) d w' ∧ Below W.heap.size W w' := by
  have H := Aside0.mk (And.intro (h.lit (pgo g)) ((Below.refl _ W).alloc (Nat.le_refl _) (pgo g)))
  go_enter Try.func13, Try.ntmps13
  go_wp2
  go_ret
  exact ⟨rfl, H.out⟩
set_option maxHeartbeats 1000000 in
theorem pdisk_h {w0 : World} {g gp : Nat} {R : List (Nat × Obj)} {d : DV} {W : World} (h : DH w0 g R d W) (hp : (gp, pgo g) ∈ R) :
    Calls Try.prog 42 #[.pointer (some ⟨gp, 0, none⟩)] W fun e w' => e = .returned (.pointer (some ⟨g, 0, none⟩)) ∧ W = w' := by
  have c0 := pgo_cell (h.row hp)
  go_enter Try.func42, Try.ntmps42
  go_wp2
  go_ret
  exact ⟨rfl, rfl⟩
set_option maxHeartbeats 1000000 in
theorem pages_h {w0 : World} {g gp : Nat} {R : List (Nat × Obj)} {d : DV} {W : World} (h : DH w0 g R d W) (hp : (gp, pgo g) ∈ R) :
    Calls Try.prog 28 #[.pointer (some ⟨gp, 0, none⟩)] W fun e w' => e = .returned (.int .i64 ((nD d / 4 : Nat) : Int)) ∧ W = w' := by
  have c0 := pgo_cell (h.row hp)
  have hl := h.nlim
  obtain ⟨k, hk⟩ : ∃ k, nD d / 4 = k := ⟨_, rfl⟩
  have hv : ((nD d : Nat) : Int) / 4 = (k : Int) := by omega
  have HD := Aside0.mk h
  rw [hk]
  clear hk h
  go_enter Try.func28, Try.ntmps28
  go_wp2_with (go_at_call 29; refine (size_h HD.out).mono ?_; rintro e w1 ⟨rfl, rfl⟩)
  go_ret
  exact ⟨rfl, rfl⟩
set_option maxHeartbeats 1000000 in
theorem plimit_h {w0 : World} {g gp : Nat} {R : List (Nat × Obj)} {d : DV} {W : World} (h : DH w0 g R d W) (hp : (gp, pgo g) ∈ R) :
    Calls Try.prog 30 #[.pointer (some ⟨gp, 0, none⟩)] W fun e w' => e = .returned (.int .i64 (d.limit / 4)) ∧ W = w' := by
  have c0 := pgo_cell (h.row hp)
  have hl0 := h.ok.lim0
  have hl1 := h.ok.lim
  have HD := Aside0.mk h
  obtain ⟨k, hk⟩ : ∃ k, d.limit / 4 = k := ⟨_, rfl⟩
  have hv : d.limit.tdiv 4 = k := by rw [Int.tdiv_eq_ediv_of_nonneg hl0]; exact hk
  rw [hk]
  clear h
  go_enter Try.func30, Try.ntmps30
  go_wp2_with (go_at_call 31; refine (limit_h HD.out).mono ?_; rintro e w1 ⟨rfl, rfl⟩)
  go_ret
  exact ⟨rfl, rfl⟩
def someE (d : DV) (id many : Int) : Int := if id < 0 ∨ many < 1 ∨ 32768 < id ∨ 32768 < many then 1 else readE d (id * 4) (many * 4)
def someB (d : DV) (id many : Int) : List UInt8 := if id < 0 ∨ many < 1 ∨ 32768 < id ∨ 32768 < many then [] else readB d (id * 4) (many * 4)
set_option maxHeartbeats 4000000 in
set_option maxRecDepth 100000 in
theorem psome_h {w0 : World} {g gp : Nat} {R : List (Nat × Obj)} {d : DV} {W : World} (h : DH w0 g R d W) (hp : (gp, pgo g) ∈ R) (id many : Int) :
    Calls Try.prog 34 #[.pointer (some ⟨gp, 0, none⟩), .int .i64 id, .int .i64 many] W fun e w' => ∃ A1 c1, e = .returned (.tuple #[.slice A1 (someB d id many).length c1, .int .i64 (someE d id many)]) ∧ Ow w' W.heap.size A1 (someB d id many).length c1 (someB d id many) ∧ Below W.heap.size W w' := by
  have c0 := pgo_cell (h.row hp)
  have HD := Aside0.mk h
  clear h
  by_cases g1 : id < 0
  · have f1 : decide (id < 0) = true := decide_eq_true g1
    rw [show someB d id many = [] from if_pos (.inl g1), show someE d id many = 1 from if_pos (.inl g1)]
    clear g1
    go_enter Try.func34, Try.ntmps34
    go_wp2
    go_ret2
    exact ⟨none, 0, rfl, Ow.nil _ _, Below.refl _ _⟩
  · have f1 : decide (id < 0) = false := decide_eq_false g1
    by_cases g2 : many < 1
    · have f2 : decide (many < 1) = true := decide_eq_true g2
      rw [show someB d id many = [] from if_pos (.inr (.inl g2)), show someE d id many = 1 from if_pos (.inr (.inl g2))]
      clear g1 g2
      go_enter Try.func34, Try.ntmps34
      go_wp2
      go_ret2
      exact ⟨none, 0, rfl, Ow.nil _ _, Below.refl _ _⟩
    · have f2 : decide (many < 1) = false := decide_eq_false g2
      by_cases g3 : 32768 < id ∨ 32768 < many
      · rw [show someB d id many = [] from if_pos (.inr (.inr g3)), show someE d id many = 1 from if_pos (.inr (.inr g3))]
        rcases (show many ≤ id ∨ id < many by omega) with g4 | g4
        · have f3 : decide (32768 < id) = true := decide_eq_true (by omega)
          clear g3 g1 g2
          go_enter Try.func34, Try.ntmps34
          go_wp2
          go_ret2
          exact ⟨none, 0, rfl, Ow.nil _ _, Below.refl _ _⟩
        · have f3 : decide (32768 < many) = true := decide_eq_true (by omega)
          clear g3 g1 g2
          go_enter Try.func34, Try.ntmps34
          go_wp2
          go_ret2
          exact ⟨none, 0, rfl, Ow.nil _ _, Below.refl _ _⟩
      · have hne : ¬ (id < 0 ∨ many < 1 ∨ 32768 < id ∨ 32768 < many) := by omega
        rw [show someB d id many = readB d (id * 4) (many * 4) from if_neg hne, show someE d id many = readE d (id * 4) (many * 4) from if_neg hne]
        have hb : 0 ≤ id ∧ id ≤ 32768 ∧ 1 ≤ many ∧ many ≤ 32768 := by omega
        have f3 : decide (32768 < id) = false := decide_eq_false (by omega)
        have f4 : decide (32768 < many) = false := decide_eq_false (by omega)
        have iw1 : IntKind.i64.wrap (id * 4) = id * 4 := IntWalk.i64_in _ (by omega)
        have iw2 : IntKind.i64.wrap (many * 4) = many * 4 := IntWalk.i64_in _ (by omega)
        clear g1 g2 g3 hne hb
        rcases (show many ≤ id ∨ id < many by omega) with g4 | g4
        · go_enter Try.func34, Try.ntmps34
          go_wp2_with (go_at_call 59; refine (read_h HD.out (id * 4) (many * 4)).mono ?_; rintro e w1 ⟨A1, c1, rfl, hO, hB⟩; (have H1 := Aside0.mk (And.intro hO hB)); clear hO hB)
          go_ret2
          exact ⟨A1, c1, rfl, H1.out⟩
        · go_enter Try.func34, Try.ntmps34
          go_wp2_with (go_at_call 59; refine (read_h HD.out (id * 4) (many * 4)).mono ?_; rintro e w1 ⟨A1, c1, rfl, hO, hB⟩; (have H1 := Aside0.mk (And.intro hO hB)); clear hO hB)
          go_ret2
          exact ⟨A1, c1, rfl, H1.out⟩
set_option maxHeartbeats 1000000 in
theorem ppage_h {w0 : World} {g gp : Nat} {R : List (Nat × Obj)} {d : DV} {W : World} (h : DH w0 g R d W) (hp : (gp, pgo g) ∈ R) (id : Int) :
    Calls Try.prog 35 #[.pointer (some ⟨gp, 0, none⟩), .int .i64 id] W fun e w' => ∃ A1 c1, e = .returned (.tuple #[.slice A1 (someB d id 1).length c1, .int .i64 (someE d id 1)]) ∧ Ow w' W.heap.size A1 (someB d id 1).length c1 (someB d id 1) ∧ Below W.heap.size W w' := by
  have HD := Aside0.mk (And.intro h hp)
  clear h hp
  go_enter Try.func35, Try.ntmps35
  go_wp2_with (go_at_call 34; refine (psome_h HD.out.1 HD.out.2 id 1).mono ?_; rintro e w1 ⟨A1, c1, rfl, hO, hB⟩; (have H1 := Aside0.mk (And.intro hO hB)); clear hO hB)
  go_ret2
  exact ⟨A1, c1, rfl, H1.out⟩
end Go.Proofs.Ythhalmjapiempaa
