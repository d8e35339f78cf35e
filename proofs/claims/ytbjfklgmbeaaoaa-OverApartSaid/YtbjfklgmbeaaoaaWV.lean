/- The law OverApart: two values apart. -/
import Derived.Test.YtbjfklgmbeaaoaaVB
set_option linter.unusedVariables false
set_option linter.unusedSimpArgs false
namespace Go.Proofs.Ytbjfklgmbeaaoaa
open Go.RowKit

theorem wpl_cp8 {W : World} {ops : Array Oper} {rest : List Oper} {o : Oper} {a : Act} {Q : Exit → Act → World → Prop} (base : Nat) (hgd : o.guard = none) (d s : Operand)
    (ho : o.op = .call { callee := .builtin .copy, args := #[d, s], argTypes := #[27, 27] })
    (g off n c dLen dCap : Nat) (xs ys : List UInt8) (B : Option Addr) (sLen sCap : Nat) (hd : a.eval d = .slice (some ⟨g, off, none⟩) dLen dCap) (hs : a.eval s = .slice B sLen sCap)
    (HO : Ow W base (some ⟨g, 0, none⟩) n c xs) (HY : Bs W B sLen sCap ys) (h0 : 0 < sLen) (h1 : sLen ≤ dLen) (h2 : off + sLen ≤ n)
    (h : ∀ w1, Aside0 (Ow w1 base (some ⟨g, 0, none⟩) n c (putL xs ys off) ∧ OnlyB g W w1) → wpList Try.prog ops Q rest (a.put o.dst (.int .i64 (sLen : Int))) w1) :
    wpList Try.prog ops Q (o :: rest) a W := by
  refine wpList_plain hgd fun K hK => ?_
  have hyl := HY.len
  obtain ⟨cur, hcur, hfit, hOw⟩ := HO.splice (a := off) (ys := ys) (by omega)
  obtain ⟨ad, rfl, hcell⟩ := HY.cells h0
  have hrun := run_copy_row (P := Try.prog) W 27 27 o.type 5 g off dLen dCap ad sLen sCap cur 5 (u8v ys) Try.underlying27 size1 hcur (by rw [u8v_length, hyl]; exact (Nat.min_eq_left h1).symm) (fun j v hj => by
    have hjl : j < ys.length := by
      rcases Nat.lt_or_ge j ys.length with q | q
      · exact q
      · rw [List.getElem?_eq_none (by rw [u8v_length]; exact q)] at hj; cases hj
    rw [u8v_get ys j hjl] at hj
    injection hj with hj
    subst hj
    exact hcell j (by omega)) (by rw [u8v_length]; exact hfit) (u8v_one ys)
  rw [u8v_length, hyl] at hrun
  have h9 := h _ ⟨hOw, ⟨rfl, rfl, rfl, by simp, fun i _ hi => setRow_other _ _ _ _ hi⟩⟩
  rw [u8v_length, hyl] at h9
  unfold Oper.wp
  simp [execOp, ho, resolve, invoke, builtin, hd, hs, hrun, Result.andThen]
  exact hK _ _ h9
theorem OnlyB.add {t : Nat} {w W w1 : World} {A : Option Addr} {o : Obj} (h : OnlyB t w W) (hg : Grw A (W.alloc o) w1) (hb : ∀ k, A = some ⟨k, 0, none⟩ → w.heap.size ≤ k) : OnlyB t w w1 := by
  have hs := hg.size
  simp at hs
  exact ⟨hg.os.trans h.os, hg.tape.trans h.tape, hg.output.trans h.output, Nat.le_trans h.size (by omega), fun i hi h1 => by
    have hi2 : i < W.heap.size := Nat.lt_of_lt_of_le hi h.size
    exact ((hg.block i (by simp; omega) (fun e => by have := hb i e; omega)).trans (Below.heap_alloc _ _ _ hi2)).trans (h.block i hi h1)⟩
theorem row2_cells {W : World} {M : Nat} {x y : Value} {T : TypeId} (h : W.heap[M]? = some (.cells #[x, y] T)) : W.cell? ⟨M, 0, none⟩ = some x ∧ W.cell? ⟨M, 1, none⟩ = some y ∧ ∀ j, W.frozen? ⟨M, j, none⟩ = false :=
  ⟨by rw [cell_of_row _ _ _ _ _ _ h]; rfl, by rw [cell_of_row _ _ _ _ _ _ h]; rfl, fun j => Go.Joins.unfrozen_of_block h j⟩
/-- What stands beside the two values. -/
structure AS (w : World) (N M G b : Nat) (A : Option Addr) (n c : Nat) (xs : List UInt8) (B : Option Addr) (m d : Nat) (ys : List UInt8) (A5 : Option Addr) (k0 c5 : Nat) (z0 : List Int) (A6 : Option Addr) (k1 c6 : Nat) (z1 : List Int) (im : List UInt8) (W : World) : Prop where
  bel : Below w.heap.size w W
  rn : W.heap[N]? = some (.cells #[.slice A n c, .slice B m d] 48)
  rm : W.heap[M]? = some (.cells #[.slice A5 k0 c5, .slice A6 k1 c6] 49)
  img : Ow W w.heap.size (some ⟨G, 0, none⟩) 7680 7680 im
  o5 : Oc W b 3 1 A5 k0 c5 (iv z0)
  o6 : Oc W b 3 1 A6 k1 c6 (iv z1)
  hx : Bs W A n c xs
  hy : Bs W B m d ys
section
variable {w W W1 : World} {N M G b n c m d k0 c5 k1 c6 : Nat} {A B A5 A6 : Option Addr} {xs ys im im2 : List UInt8} {z0 z1 : List Int}
theorem AS.below (h : AS w N M G b A n c xs B m d ys A5 k0 c5 z0 A6 k1 c6 z1 im W) (hB : Below W.heap.size W W1) : AS w N M G b A n c xs B m d ys A5 k0 c5 z0 A6 k1 c6 z1 im W1 :=
  ⟨below_then h.bel h.bel.size hB, (hB.block N (Array.getElem?_eq_some_iff.1 h.rn).1).trans h.rn, (hB.block M (Array.getElem?_eq_some_iff.1 h.rm).1).trans h.rm, h.img.below hB, h.o5.below hB, h.o6.below hB, h.hx.below hB, h.hy.below hB⟩
theorem AS.put (h : AS w N M G b A n c xs B m d ys A5 k0 c5 z0 A6 k1 c6 z1 im W) (ho : OnlyB G W W1) (hO : Ow W1 w.heap.size (some ⟨G, 0, none⟩) 7680 7680 im2) (hN : N ≠ G) (hM : M ≠ G) (hG : G < b) (hwG : w.heap.size ≤ G) (hx : Bs w A n c xs) (hy : Bs w B m d ys) : AS w N M G b A n c xs B m d ys A5 k0 c5 z0 A6 k1 c6 z1 im2 W1 := by
  have hB := ho.below h.bel hwG (Nat.le_refl _)
  exact ⟨hB, (ho.block N (Array.getElem?_eq_some_iff.1 h.rn).1 hN).trans h.rn, (ho.block M (Array.getElem?_eq_some_iff.1 h.rm).1 hM).trans h.rm, hO, h.o5.only ho (fun i e => by have := h.o5.lo i e; omega), h.o6.only ho (fun i e => by have := h.o6.lo i e; omega), hx.below hB, hy.below hB⟩
theorem AS.cN (h : AS w N M G b A n c xs B m d ys A5 k0 c5 z0 A6 k1 c6 z1 im W) : W.cell? ⟨N, 0, none⟩ = some (.slice A n c) ∧ W.cell? ⟨N, 1, none⟩ = some (.slice B m d) ∧ W.cell? ⟨M, 0, none⟩ = some (.slice A5 k0 c5) ∧ W.cell? ⟨M, 1, none⟩ = some (.slice A6 k1 c6) :=
  ⟨(row2_cells h.rn).1, (row2_cells h.rn).2.1, (row2_cells h.rm).1, (row2_cells h.rm).2.1⟩
end
theorem run_cell {W : World} {b a n c : Nat} {z : Nat} (h : Oc W b 3 1 (some ⟨a, 0, none⟩) n c (iv (runI (z : Int) n))) (hn : 1 ≤ n) : W.cell? ⟨a, 0, none⟩ = some (.int .i64 (z : Int)) := by
  obtain ⟨ad, y, e, hy, hc⟩ := h.rc.int 0 (by omega)
  injection e with e
  subst e
  rw [runI_at (by omega)] at hy
  injection hy with hy
  subst hy
  have h2 : W.cell? ⟨a, 0, none⟩ = some (.int .i64 ((z : Int) + ((0 : Nat) : Int))) := hc
  rw [h2]
  simp
theorem runI_bnd {a n : Nat} (h : a + n ≤ 1000) : ∀ z, z ∈ runI (a : Int) n → -9223372036854775808 ≤ z ∧ z ≤ 9223372036854775807 := fun z hz => by
  have := runI_mem hz
  omega
def imJ (a b c : List UInt8) : Nat → List UInt8
  | 0 => a
  | 1 => b
  | _ => c
theorem ixA (g h : Int) (W : World) : (Instr.index 42 (.agg #[.int .i64 g, .int .i64 h]) (.int .i64 0)).run Try.prog W = .ok (.int .i64 g) W := by kernel_rfl
theorem ixB (g h : Int) (W : World) : (Instr.index 42 (.agg #[.int .i64 g, .int .i64 h]) (.int .i64 1)).run Try.prog W = .ok (.int .i64 h) W := by kernel_rfl
theorem two_puts {z F0 F1 : List UInt8} {a p : Nat} (ha : a ≤ z.length) (hp : p = a + F0.length) : putL (putL z F0 a) F1 p = z.take a ++ F0 ++ (F1 ++ (putL z F0 a).drop (p + F1.length)) := by
  have h1 : (putL z F0 a).take p = z.take a ++ F0 := by
    unfold putL
    rw [← List.append_assoc, List.take_left' (by rw [List.length_append, List.length_take]; omega)]
  rw [putL, h1]
theorem stands_two {z im1 im2 : List UInt8} {g h : Int} {xs ys : List UInt8} {k0 k1 a1 p1 : Nat} {l0 l1 : List (List UInt8)} (hz : z.length = 7680) (h0 : 1 ≤ k0) (h1 : 1 ≤ k1) (b0 : k0 ≤ 7) (b1 : k1 ≤ 7) (ha : 3 + k0 = a1) (hp : 256 * a1 = p1)
    (m0 : ovM g xs.length = (k0 : Int)) (m1 : ovM h ys.length = (k1 : Int)) (e0 : ovL g xs (runI 3 k0) = l0) (e1 : ovL h ys (runI a1 k1) = l1) (f0 : l0.flatten.length = 256 * k0) (f1 : l1.flatten.length = 256 * k1) (i1 : putL z l0.flatten 768 = im1) (i2 : putL im1 l1.flatten p1 = im2) :
    Stands im2 g 3 xs (runI 3 k0) ∧ Stands im2 h a1 ys (runI a1 k1) := by
  constructor
  · rw [← i2, ← i1, two_puts (by omega) (by omega), ← e0]
    exact stands_run (a := 3) h0 m0 (by omega) (by omega) (by rw [List.length_take]; omega)
  · rw [← i2, putL, ← List.append_assoc, ← e1]
    exact stands_run h1 m1 (by omega) (by omega) (by rw [List.length_take, ← i1, putL_length _ _ _ (by omega)]; omega)
set_option maxHeartbeats 16000000 in
set_option maxRecDepth 100000 in
theorem overApartLaw_any (g h : Int) (A : Option Addr) (n c : Nat) (xs : List UInt8) (B : Option Addr) (m d : Nat) (ys : List UInt8) (w : World) (hx : Bs w A n c xs) (hy : Bs w B m d ys) :
    Calls Try.prog 6 #[.int .i64 g, .int .i64 h, .agg #[.slice A n c, .slice B m d]] w fun e w' => e = .returned (.bool true) ∧ Below w.heap.size w w' := by
  have HX := Aside0.mk (And.intro hx hx.len)
  have HY := Aside0.mk (And.intro hy hy.len)
  obtain ⟨k0, hk0⟩ := Int.eq_ofNat_of_zero_le (ovM_hi g (n : Int)).2
  obtain ⟨k1, hk1⟩ := Int.eq_ofNat_of_zero_le (ovM_hi h (m : Int)).2
  have hb0 : k0 ≤ 7 := by have := (ovM_hi g (n : Int)).1; omega
  have hb1 : k1 ≤ 7 := by have := (ovM_hi h (m : Int)).1; omega
  have HM := Aside0.mk (And.intro hk0 hk1)
  have cM0 : ∀ W, Calls Try.prog 11 #[.int .i64 g, .int .i64 (n : Int)] W fun e w' => e = .returned (.int .i64 (k0 : Int)) ∧ Below W.heap.size W w' := fun W => by
    have := overMany_any g (n : Int) W
    rwa [hk0] at this
  have cM1 : ∀ W, Calls Try.prog 11 #[.int .i64 h, .int .i64 (m : Int)] W fun e w' => e = .returned (.int .i64 (k1 : Int)) ∧ Below W.heap.size W w' := fun W => by
    have := overMany_any h (m : Int) W
    rwa [hk1] at this
  have hB1 := (Below.refl _ w).alloc (Nat.le_refl _) (.cells #[.slice A n c, .slice B m d] 48)
  have hr1 := heap_alloc_new w (.cells #[.slice A n c, .slice B m d] 48)
  clear hx hy hk0 hk1
  go_enter Try.func6, Try.ntmps6
  go_upto_region 1 with fail
  obtain ⟨w1, hw1⟩ : ∃ X, w.alloc (.cells #[.slice A n c, .slice B m d] 48) = X := ⟨_, rfl⟩
  obtain ⟨N, hN⟩ : ∃ X, w.heap.size = X := ⟨_, rfl⟩
  rw [hw1] at hB1 hr1
  rw [hN] at hr1
  rw [hw1, hN]
  have H1 := Aside0.mk (And.intro hB1 (And.intro hr1 hN))
  clear hB1 hr1 hw1 hN
  have y0 : w1.cell? ⟨N, 0, none⟩ = some (.slice A n c) := by rw [cell_of_row _ _ _ _ _ _ H1.out.2.1]; rfl
  have y1 : w1.cell? ⟨N, 1, none⟩ = some (.slice B m d) := by rw [cell_of_row _ _ _ _ _ _ H1.out.2.1]; rfl
  refine wp_region_ext (by kernel_rfl) (by kernel_rfl) ?_
  have a0 := cell_ext y0
  have a1 := cell_ext y1
  clear y0 y1
  repeat (go_big_quiet_step ((go_at_call 11; first | with_reducible exact Calls.ext_of (cM0 _) | with_reducible exact Calls.ext_of (cM1 _))))
  refine wpQuiet_nil ?_
  rintro w' ⟨kx, rfl⟩
  clear a0 a1 cM0 cM1
  have H2 := Aside0.mk (And.intro (below_then H1.out.1 H1.out.1.size kx.bel) ((kx.bel.block N (Array.getElem?_eq_some_iff.1 H1.out.2.1).1).trans H1.out.2.1))
  obtain ⟨w2, hw2⟩ : ∃ X, kx.w = X := ⟨_, rfl⟩
  rw [hw2] at H2
  rw [hw2]
  clear hw2
  by_cases q0 : 1 ≤ k0 ∧ 1 ≤ k1
  case neg =>
    have HQ := Aside0.mk q0
    by_cases p0 : k0 < 1
    · have d0 : decide ((k0 : Int) < 1) = true := decide_eq_true (by omega)
      have d0' : decide (k0 < 1) = true := decide_eq_true p0
      go_wp2_with (go_at_call 12; refine (alive08_any _).mono ?_; rintro e w3 ⟨rfl, hB⟩; (have H3 := Aside0.mk (below_then H2.out.1 H2.out.1.size hB)); clear hB)
      go_ret
      exact ⟨rfl, H3.out⟩
    · have d0 : decide ((k0 : Int) < 1) = false := decide_eq_false (by omega)
      have d0' : decide (k0 < 1) = false := decide_eq_false p0
      have d1 : decide ((k1 : Int) < 1) = true := decide_eq_true (by omega)
      have d1' : decide (k1 < 1) = true := decide_eq_true (by omega)
      clear q0
      go_wp2_with (go_at_call 12; refine (alive08_any _).mono ?_; rintro e w3 ⟨rfl, hB⟩; (have H3 := Aside0.mk (below_then H2.out.1 H2.out.1.size hB)); clear hB)
      go_ret
      exact ⟨rfl, H3.out⟩
  case pos =>
    have HK := Aside0.mk q0
    have d0 : decide ((k0 : Int) < 1) = false := decide_eq_false (by omega)
    have d0' : decide (k0 < 1) = false := decide_eq_false (by omega)
    have d1 : decide ((k1 : Int) < 1) = false := decide_eq_false (by omega)
    have d1' : decide (k1 < 1) = false := decide_eq_false (by omega)
    have hmk : ∀ W : World, (Instr.makeSlice 27 (.int .i64 7680) (.int .i64 7680)).run Try.prog W = .ok (.slice (some ⟨W.heap.size, 0, none⟩) 7680 7680) (W.alloc (.cells (madeCells #[.int .u8 0] 7680) 5)) := mk8 7680 (by omega)
    clear q0
    go_upto_region 6 with fail
    obtain ⟨G, hG⟩ : ∃ X, w2.heap.size = X := ⟨_, rfl⟩
    have hO3 := Ow.made w2 w.heap.size G hG H2.out.1.size 7680 (by omega)
    have hB3 := ((Below.refl _ w2).alloc (Nat.le_refl _) (.cells (madeCells #[.int .u8 0] 7680) 5)).alloc (by simp) (.cells #[.slice none 0 0, .slice none 0 0] 49)
    have hr3 := heap_alloc_new (w2.alloc (.cells (madeCells #[.int .u8 0] 7680) 5)) (.cells #[.slice none 0 0, .slice none 0 0] 49)
    have hO3' := hO3.alloc (.cells #[.slice none 0 0, .slice none 0 0] 49)
    obtain ⟨w3, hw3⟩ : ∃ X, (w2.alloc (.cells (madeCells #[.int .u8 0] 7680) 5)).alloc (.cells #[.slice none 0 0, .slice none 0 0] 49) = X := ⟨_, rfl⟩
    have hs3 : w3.heap.size = G + 2 := by rw [← hw3]; simp; omega
    obtain ⟨M, hMG⟩ : ∃ M, G + 1 = M := ⟨_, rfl⟩
    rw [show (w2.alloc (.cells (madeCells #[.int .u8 0] 7680) 5)).heap.size = M by simp; omega] at hr3
    rw [hw3] at hO3' hB3 hr3
    rw [hw3, hG, hMG]
    have hNG : N < G := by rw [← hG]; exact (Array.getElem?_eq_some_iff.1 H2.out.2).1
    have HL := Aside0.mk (And.intro hs3 (And.intro hMG (And.intro hNG H1.out.2.2)))
    have H3 := Aside0.mk (show Below w.heap.size w w3 ∧ w3.heap[N]? = some (.cells #[.slice A n c, .slice B m d] 48) ∧ w3.heap[M]? = some (.cells #[.slice none 0 0, .slice none 0 0] 49) ∧ Ow w3 w.heap.size (some ⟨G, 0, none⟩) 7680 7680 (List.replicate 7680 0) from ⟨below_then H2.out.1 H2.out.1.size hB3, (hB3.block N (by omega)).trans H2.out.2, hr3, hO3'⟩)
    clear hO3 hB3 hr3 hO3' hw3 hG hs3 hMG hNG hmk H2
    go_upto_block 0 with fail
    go_cut [] (fun w4 => ∃ A5 c5, Aside0 (OnlyB M w3 w4 ∧ w4.heap[M]? = some (.cells #[.slice A5 k0 c5, .slice none 0 0] 49) ∧ Oc w4 w3.heap.size 3 1 A5 k0 c5 (iv (runI 3 k0))))
    case first =>
      go_wp2_with fail
      go_loopg [43] k0 (fun gk v43 wr => ∃ (j : Nat) (A5 : Option Addr) (c5 : Nat), Aside (gk + j = k0) ∧ v43 = .int .i64 (j : Int) ∧ Aside0 (OnlyB M w3 wr ∧ wr.heap[M]? = some (.cells #[.slice A5 j c5, .slice none 0 0] 49) ∧ Oc wr w3.heap.size 3 1 A5 j c5 (iv (runI 3 j))))
      case atStart => exact ⟨0, none, 0, by rfl, rfl, ⟨OnlyB.refl _ _, H3.out.2.2.1, Oc.nil _ _ _ _⟩⟩
      case round =>
        obtain ⟨j, A5, c5, hk, rfl, hI⟩ := hrel
        have hjm : j ≤ k0 := by have := hk.out; omega
        rcases Nat.lt_or_ge j k0 with hlt | hge
        · have dj : decide ((j : Int) < (k0 : Int)) = true := decide_eq_true (by omega)
          have djn : (j : Int) < (k0 : Int) := by omega
          have wj : IntKind.i64.wrap ((j : Int) + 1) = ((j + 1 : Nat) : Int) := IntWalk.i64_in _ (by omega)
          have w3j : IntKind.i64.wrap (3 + (j : Int)) = 3 + (j : Int) := IntWalk.i64_in _ (by omega)
          obtain ⟨y0, y1, yf⟩ := row2_cells hI.out.2.1
          go_wp2_with (at_builtin; refine wpl_oc w3.heap.size rfl _ _ 28 3 (.int .i64 0) 1 8 rfl Try.underlying28 infoI rfl (by omega) (by omega) (by omega) A5 j _ wr.heap.size (iv (runI 3 j)) [.int .i64 (3 + (j : Int))] rfl rfl (hI.out.2.2.below ((Below.refl _ wr).alloc (Nat.le_refl _) _)) rfl (lit1_range _ _) (iv_one [3 + (j : Int)]) (by have := hI.out.1.size; simp; omega) (by omega) ?_; intro A3 c3 w9 hO hG hA; (have hO9 : Oc w9 w3.heap.size 3 1 A3 (j + 1) c3 (iv (runI 3 j ++ [3 + (j : Int)])) := (by rw [iv_app]; exact hO.out)); (have hb9 := hI.out.1.add hG.out (fun k q => hI.out.2.2.lo k q)); (have hr9 := (row_add (hI.out.2.2.below ((Below.refl _ wr).alloc (Nat.le_refl _) _)) ((Below.heap_alloc wr _ M (Array.getElem?_eq_some_iff.1 hI.out.2.1).1).trans hI.out.2.1) (by decide) hG.out)); (have H9 := Aside0.mk (And.intro hb9 (And.intro hr9 hO9))); (obtain ⟨z0, z1, zf⟩ := row2_cells hr9); clear hO hG hA hO9 hb9 hr9)
          go_roundg (k0 - (j + 1))
          case measure => have := hk.out; omega
          case rel => exact ⟨j + 1, A3, c3, (by show k0 - (j + 1) + (j + 1) = k0; omega), by go_num, ⟨H9.out.1.set 0 _, heap_setCell_same w9 M 0 _ _ _ H9.out.2.1, by rw [runI_succ]; exact H9.out.2.2.only ((OnlyB.refl M w9).set 0 _) (fun i e => by have := H9.out.2.2.lo i e; have := HL.out; omega)⟩⟩
        · obtain rfl : k0 = j := by omega
          have dj : decide ((k0 : Int) < (k0 : Int)) = false := by simp
          go_wp2_with fail
          go_meet
          exact ⟨A5, c5, hI⟩
    case rest =>
      obtain ⟨A5, c5, HC⟩ := hcut
      obtain ⟨w4, rfl⟩ : ∃ X, X = wc := ⟨wc, rfl⟩
      obtain ⟨a1, ha1⟩ : ∃ x, 3 + k0 = x := ⟨_, rfl⟩
      have w3k : IntKind.i64.wrap (3 + (k0 : Int)) = (a1 : Int) := (IntWalk.i64_in _ (by omega)).trans (by omega)
      have HA1 := Aside0.mk ha1
      clear ha1
      go_upto_block 2 with fail
      go_cut [] (fun w5 => ∃ A6 c6, Aside0 (OnlyB M w4 w5 ∧ w5.heap[M]? = some (.cells #[.slice A5 k0 c5, .slice A6 k1 c6] 49) ∧ Oc w5 w4.heap.size 3 1 A6 k1 c6 (iv (runI a1 k1))))
      case first =>
        go_wp2_with fail
        go_loopg [55] k1 (fun gk v55 wr => ∃ (j : Nat) (A6 : Option Addr) (c6 : Nat), Aside (gk + j = k1) ∧ v55 = .int .i64 (j : Int) ∧ Aside0 (OnlyB M w4 wr ∧ wr.heap[M]? = some (.cells #[.slice A5 k0 c5, .slice A6 j c6] 49) ∧ Oc wr w4.heap.size 3 1 A6 j c6 (iv (runI a1 j))))
        case atStart => exact ⟨0, none, 0, by rfl, rfl, ⟨OnlyB.refl _ _, HC.out.2.1, Oc.nil _ _ _ _⟩⟩
        case round =>
          obtain ⟨j, A6, c6, hk, rfl, hI⟩ := hrel
          have hjm : j ≤ k1 := by have := hk.out; omega
          rcases Nat.lt_or_ge j k1 with hlt | hge
          · have dj : decide ((j : Int) < (k1 : Int)) = true := decide_eq_true (by omega)
            have djn : (j : Int) < (k1 : Int) := by omega
            have wj : IntKind.i64.wrap ((j : Int) + 1) = ((j + 1 : Nat) : Int) := IntWalk.i64_in _ (by omega)
            have w3j : IntKind.i64.wrap ((a1 : Int) + (j : Int)) = (a1 : Int) + (j : Int) := IntWalk.i64_in _ (by have := HA1.out; omega)
            obtain ⟨y0, y1, yf⟩ := row2_cells hI.out.2.1
            go_wp2_with (at_builtin; refine wpl_oc w4.heap.size rfl _ _ 28 3 (.int .i64 0) 1 8 rfl Try.underlying28 infoI rfl (by omega) (by omega) (by omega) A6 j _ wr.heap.size (iv (runI a1 j)) [.int .i64 ((a1 : Int) + (j : Int))] rfl rfl (hI.out.2.2.below ((Below.refl _ wr).alloc (Nat.le_refl _) _)) rfl (lit1_range _ _) (iv_one [(a1 : Int) + (j : Int)]) (by have := hI.out.1.size; simp; omega) (by omega) ?_; intro A3 c3 w9 hO hG hA; (have hO9 : Oc w9 w4.heap.size 3 1 A3 (j + 1) c3 (iv (runI a1 j ++ [(a1 : Int) + (j : Int)])) := (by rw [iv_app]; exact hO.out)); (have hb9 := hI.out.1.add hG.out (fun k q => hI.out.2.2.lo k q)); (have hr9 := (row_add (hI.out.2.2.below ((Below.refl _ wr).alloc (Nat.le_refl _) _)) ((Below.heap_alloc wr _ M (Array.getElem?_eq_some_iff.1 hI.out.2.1).1).trans hI.out.2.1) (by decide) hG.out)); (have H9 := Aside0.mk (And.intro hb9 (And.intro hr9 hO9))); (obtain ⟨z0, z1, zf⟩ := row2_cells hr9); clear hO hG hA hO9 hb9 hr9)
            go_roundg (k1 - (j + 1))
            case measure => have := hk.out; omega
            case rel => exact ⟨j + 1, A3, c3, (by show k1 - (j + 1) + (j + 1) = k1; omega), by go_num, ⟨H9.out.1.set 1 _, heap_setCell_same w9 M 1 _ _ _ H9.out.2.1, by rw [runI_succ]; exact H9.out.2.2.only ((OnlyB.refl M w9).set 1 _) (fun i e => by have := H9.out.2.2.lo i e; have := (Array.getElem?_eq_some_iff.1 HC.out.2.1).1; omega)⟩⟩
          · obtain rfl : k1 = j := by omega
            have dj : decide ((k1 : Int) < (k1 : Int)) = false := by simp
            go_wp2_with fail
            go_meet
            exact ⟨A6, c6, hI⟩
      case rest =>
        obtain ⟨A6, c6, HD⟩ := hcut
        obtain ⟨w5, rfl⟩ : ∃ X, X = wc := ⟨wc, rfl⟩
        clear w3k
        have hAS : AS w N M G w3.heap.size A n c xs B m d ys A5 k0 c5 (runI 3 k0) A6 k1 c6 (runI a1 k1) (List.replicate 7680 0) w5 := by
          have hl := HL.out
          have ho : OnlyB M w3 w5 := HC.out.1.trans HD.out.1
          have hB : Below w.heap.size w w5 := ho.below H3.out.1 (by omega) (Nat.le_refl _)
          refine ⟨hB, (ho.block N (by omega) (by omega)).trans H3.out.2.1, HD.out.2.1, H3.out.2.2.2.kept (fun g e hg => ?_), HC.out.2.2.only HD.out.1 (fun i e => by have := HC.out.2.2.lo i e; omega), HD.out.2.2.mono HC.out.1.size, HX.out.1.below hB, HY.out.1.below hB⟩
          injection e with e
          injection e with e _ _
          exact ho.block g hg (by omega)
        have HAS := Aside0.mk hAS
        clear hAS
        obtain ⟨l0, hl0⟩ : ∃ x, ovL g xs (runI 3 k0) = x := ⟨_, rfl⟩
        obtain ⟨l1, hl1⟩ : ∃ x, ovL h ys (runI a1 k1) = x := ⟨_, rfl⟩
        have ho0 : ovE g xs (runI 3 k0) = 0 := ov_run HK.out.1 (by rw [HX.out.2]; exact HM.out.1) (by omega) (by omega)
        have ho1 : ovE h ys (runI a1 k1) = 0 := ov_run HK.out.2 (by rw [HY.out.2]; exact HM.out.2) (by have := HA1.out; omega) (by have := HA1.out; omega)
        have hn0 : l0.length = k0 := by rw [← hl0, ovL_len ho0, runI_len]
        have hn1 : l1.length = k1 := by rw [← hl1, ovL_len ho1, runI_len]
        have h256a : ∀ x, x ∈ l0 → x.length = 256 := by rw [← hl0]; exact ovL_len256 ho0
        have h256b : ∀ x, x ∈ l1 → x.length = 256 := by rw [← hl1]; exact ovL_len256 ho1
        have HE0 := Aside0.mk (And.intro hl0 (And.intro ho0 (And.intro hn0 h256a)))
        have HE1 := Aside0.mk (And.intro hl1 (And.intro ho1 (And.intro hn1 h256b)))
        obtain ⟨a5, rfl⟩ : ∃ a, A5 = some ⟨a, 0, none⟩ := by obtain ⟨a, e, _, _⟩ := HAS.out.o5.head (by have := HK.out; omega); exact ⟨a, e⟩
        obtain ⟨a6, rfl⟩ : ∃ a, A6 = some ⟨a, 0, none⟩ := by obtain ⟨a, e, _, _⟩ := HAS.out.o6.head (by have := HK.out; omega); exact ⟨a, e⟩
        obtain ⟨im0, him0⟩ : ∃ x, List.replicate 7680 (0 : UInt8) = x := ⟨_, rfl⟩
        obtain ⟨im1, him1⟩ : ∃ x, putL im0 l0.flatten 768 = x := ⟨_, rfl⟩
        obtain ⟨p1, hp1⟩ : ∃ x, 256 * a1 = x := ⟨_, rfl⟩
        obtain ⟨im2, him2⟩ : ∃ x, putL im1 l1.flatten p1 = x := ⟨_, rfl⟩
        rw [him0] at HAS
        have HIM := Aside0.mk (And.intro him0 (And.intro him1 (And.intro him2 hp1)))
        clear hl0 hl1 ho0 ho1 hn0 hn1 h256a h256b him0 him1 him2 hp1
        go_upto_block 4 with fail
        go_cut [] (fun w6 => Aside0 (AS w N M G w3.heap.size A n c xs B m d ys (some ⟨a5, 0, none⟩) k0 c5 (runI 3 k0) (some ⟨a6, 0, none⟩) k1 c6 (runI a1 k1) im2 w6))
        case first =>
          go_wp2_with fail
          go_loopg [71] 2 (fun gk v71 wr => ∃ j : Nat, Aside (gk + j = 2) ∧ v71 = .int .i64 (j : Int) ∧ Aside0 (AS w N M G w3.heap.size A n c xs B m d ys (some ⟨a5, 0, none⟩) k0 c5 (runI 3 k0) (some ⟨a6, 0, none⟩) k1 c6 (runI a1 k1) (imJ im0 im1 im2 j) wr))
          case atStart => exact ⟨0, by rfl, rfl, HAS⟩
          case round =>
            obtain ⟨j, hk, hv, hI⟩ := hrel
            obtain rfl | rfl | rfl : j = 0 ∨ j = 1 ∨ j = 2 := by have := hk.out; omega
            · have hv2 : _ = Value.int .i64 0 := hv
              subst hv2
              have hI : Aside0 (AS w N M G w3.heap.size A n c xs B m d ys (some ⟨a5, 0, none⟩) k0 c5 (runI 3 k0) (some ⟨a6, 0, none⟩) k1 c6 (runI a1 k1) im0 wr) := hI
              have hix := fun W => ixA g h W
              go_upto_region 19 with fail
              clear hix
              obtain ⟨x0, hx0⟩ : ∃ X, wr.drew = X := ⟨_, rfl⟩
              have hA0 : AS w N M G w3.heap.size A n c xs B m d ys (some ⟨a5, 0, none⟩) k0 c5 (runI 3 k0) (some ⟨a6, 0, none⟩) k1 c6 (runI a1 k1) im0 x0 := by rw [← hx0]; exact hI.out.below (below_drew (Below.refl _ wr))
              have H10 := Aside0.mk hA0
              clear hA0
              refine wp_region_M (fun j => decide (j < 20)) (fun w' => w'.cell? ⟨N, 0, none⟩ = some (.slice A n c) ∧ w'.cell? ⟨N, 1, none⟩ = some (.slice B m d) ∧ w'.cell? ⟨M, 0, none⟩ = some (.slice (some ⟨a5, 0, none⟩) k0 c5) ∧ w'.cell? ⟨M, 1, none⟩ = some (.slice (some ⟨a6, 0, none⟩) k1 c6)) (by kernel_rfl) ?_
              rw [hx0]
              clear hx0
              refine wpAnyM_take (i := 0) (v := ?_) (by simp only [List.getElem?_toArray, List.getElem?_cons_succ, List.getElem?_cons_zero]; rfl) (by kernel_rfl) (by kernel_rfl) (by kernel_rfl) (by kernel_rfl) (by exact fun _ _ _ h => h) (Or.inl ⟨by rfl, ?_⟩) H10.out.cN ?_
              rotate_left
              · (intro w' hSw; (try dsimp only at hSw); go_simp; try with_reducible rfl)
              try simp only [Act.put, List.setIfInBounds_toArray, List.set_cons_zero, List.set_cons_succ]
              refine wpAnyM_take (i := 1) (v := ?_) (by simp only [List.getElem?_toArray, List.getElem?_cons_succ, List.getElem?_cons_zero]; rfl) (by kernel_rfl) (by kernel_rfl) (by kernel_rfl) (by kernel_rfl) (by exact fun _ _ _ h => h) (Or.inl ⟨by rfl, ?_⟩) H10.out.cN ?_
              rotate_left
              · (intro w' hSw; (try dsimp only at hSw); go_simp; try with_reducible rfl)
              try simp only [Act.put, List.setIfInBounds_toArray, List.set_cons_zero, List.set_cons_succ]
              refine wpAnyM_take (i := 2) (v := ?_) (by simp only [List.getElem?_toArray, List.getElem?_cons_succ, List.getElem?_cons_zero]; rfl) (by kernel_rfl) (by kernel_rfl) (by kernel_rfl) (by kernel_rfl) (by exact fun _ _ _ h => h) (Or.inl ⟨by rfl, ?_⟩) H10.out.cN ?_
              rotate_left
              · (intro w' hSw; (try dsimp only at hSw); go_simp; try with_reducible rfl)
              try simp only [Act.put, List.setIfInBounds_toArray, List.set_cons_zero, List.set_cons_succ]
              refine wpAnyM_take (i := 3) (v := ?_) (by simp only [List.getElem?_toArray, List.getElem?_cons_succ, List.getElem?_cons_zero]; rfl) (by kernel_rfl) (by kernel_rfl) (by kernel_rfl) (by kernel_rfl) (by exact fun _ _ _ h => h) (Or.inl ⟨by rfl, ?_⟩) H10.out.cN ?_
              rotate_left
              · (intro w' hSw; (try dsimp only at hSw); go_simp; try with_reducible rfl)
              try simp only [Act.put, List.setIfInBounds_toArray, List.set_cons_zero, List.set_cons_succ]
              refine wpAnyM_take (i := 4) (v := ?_) (by simp only [List.getElem?_toArray, List.getElem?_cons_succ, List.getElem?_cons_zero]; rfl) (by kernel_rfl) (by kernel_rfl) (by kernel_rfl) (by kernel_rfl) (by exact fun _ _ _ h => h) (Or.inl ⟨by rfl, ?_⟩) H10.out.cN ?_
              rotate_left
              · (intro w' hSw; (try dsimp only at hSw); go_simp; try with_reducible rfl)
              try simp only [Act.put, List.setIfInBounds_toArray, List.set_cons_zero, List.set_cons_succ]
              refine wpAnyM_take (i := 5) (v := ?_) (by simp only [List.getElem?_toArray, List.getElem?_cons_succ, List.getElem?_cons_zero]; rfl) (by kernel_rfl) (by kernel_rfl) (by kernel_rfl) (by kernel_rfl) (by exact fun _ _ _ h => h) (Or.inl ⟨by rfl, ?_⟩) H10.out.cN ?_
              rotate_left
              · (intro w' hSw; (try dsimp only at hSw); go_simp; try with_reducible rfl)
              try simp only [Act.put, List.setIfInBounds_toArray, List.set_cons_zero, List.set_cons_succ]
              refine wpAnyM_take (i := 6) (v := ?_) (by simp only [List.getElem?_toArray, List.getElem?_cons_succ, List.getElem?_cons_zero]; rfl) (by kernel_rfl) (by kernel_rfl) (by kernel_rfl) (by kernel_rfl) (by exact fun _ _ _ h => h) (Or.inl ⟨by rfl, ?_⟩) H10.out.cN ?_
              rotate_left
              · (intro w' hSw; (try dsimp only at hSw); go_simp; try with_reducible rfl)
              try simp only [Act.put, List.setIfInBounds_toArray, List.set_cons_zero, List.set_cons_succ]
              refine wpAnyM_one (i := 7) (by kernel_rfl) (by simp only [List.getElem?_toArray, List.getElem?_cons_succ, List.getElem?_cons_zero]; rfl) ?_
              have cE := oencode_any g A n c xs (some ⟨a5, 0, none⟩) k0 c5 (runI 3 k0) x0 H10.out.hx H10.out.o5.rc (runI_bnd (a := 3) (by have := HA1.out; omega))
              rw [HE0.out.1, HE0.out.2.1, HE0.out.2.2.1] at cE
              go_wp2_with (go_at_call 21; refine cE.mono ?_; rintro e x1 ⟨A7, c7, hs, rfl, hO, hP, hB⟩; (have H11 := Aside0.mk (And.intro (H10.out.below hB) (And.intro hO hP))); clear hO hP hB)
              clear cE
              refine ⟨H11.out.1.cN, ?_⟩
              try simp only [Act.put, List.setIfInBounds_toArray, List.set_cons_zero, List.set_cons_succ]
              refine wpAnyM_take (i := 8) (v := ?_) (by simp only [List.getElem?_toArray, List.getElem?_cons_succ, List.getElem?_cons_zero]; rfl) (by kernel_rfl) (by kernel_rfl) (by kernel_rfl) (by kernel_rfl) (by exact fun _ _ _ h => h) (Or.inl ⟨by rfl, ?_⟩) H11.out.1.cN ?_
              rotate_left
              · (intro w' hSw; (try dsimp only at hSw); go_simp; try with_reducible rfl)
              try simp only [Act.put, List.setIfInBounds_toArray, List.set_cons_zero, List.set_cons_succ]
              refine wpAnyM_take (i := 9) (v := ?_) (by simp only [List.getElem?_toArray, List.getElem?_cons_succ, List.getElem?_cons_zero]; rfl) (by kernel_rfl) (by kernel_rfl) (by kernel_rfl) (by kernel_rfl) (by exact fun _ _ _ h => h) (Or.inl ⟨by rfl, ?_⟩) H11.out.1.cN ?_
              rotate_left
              · (intro w' hSw; (try dsimp only at hSw); go_simp; try with_reducible rfl)
              try simp only [Act.put, List.setIfInBounds_toArray, List.set_cons_zero, List.set_cons_succ]
              refine wpAnyM_take (i := 10) (v := ?_) (by simp only [List.getElem?_toArray, List.getElem?_cons_succ, List.getElem?_cons_zero]; rfl) (by kernel_rfl) (by kernel_rfl) (by kernel_rfl) (by kernel_rfl) (by exact fun _ _ _ h => h) (Or.inl ⟨by rfl, ?_⟩) H11.out.1.cN ?_
              rotate_left
              · (intro w' hSw; (try dsimp only at hSw); go_simp; try with_reducible rfl)
              try simp only [Act.put, List.setIfInBounds_toArray, List.set_cons_zero, List.set_cons_succ]
              refine wpAnyM_take (i := 11) (v := ?_) (by simp only [List.getElem?_toArray, List.getElem?_cons_succ, List.getElem?_cons_zero]; rfl) (by kernel_rfl) (by kernel_rfl) (by kernel_rfl) (by kernel_rfl) (by exact fun _ _ _ h => h) (Or.inl ⟨by rfl, ?_⟩) H11.out.1.cN ?_
              rotate_left
              · (intro w' hSw; (try dsimp only at hSw); go_simp; try with_reducible rfl)
              try simp only [Act.put, List.setIfInBounds_toArray, List.set_cons_zero, List.set_cons_succ]
              refine wpAnyM_take (i := 12) (v := ?_) (by simp only [List.getElem?_toArray, List.getElem?_cons_succ, List.getElem?_cons_zero]; rfl) (by kernel_rfl) (by kernel_rfl) (by kernel_rfl) (by kernel_rfl) (by exact fun _ _ _ h => h) (Or.inl ⟨by rfl, ?_⟩) H11.out.1.cN ?_
              rotate_left
              · (intro w' hSw; (try dsimp only at hSw); go_simp; try with_reducible rfl)
              try simp only [Act.put, List.setIfInBounds_toArray, List.set_cons_zero, List.set_cons_succ]
              refine wpAnyM_done (by kernel_rfl) ?_ _
              go_upto_region 22 with fail
              obtain ⟨x2, hx2⟩ : ∃ X, x1.drew = X := ⟨_, rfl⟩
              have hA2 : AS w N M G w3.heap.size A n c xs B m d ys (some ⟨a5, 0, none⟩) k0 c5 (runI 3 k0) (some ⟨a6, 0, none⟩) k1 c6 (runI a1 k1) im0 x2 ∧ Oc x2 x0.heap.size 27 1 A7 k0 c7 (shl hs) ∧ Pgf x2 x0.heap.size hs l0 := by
                have hB := below_drew (Below.refl x1.heap.size x1)
                rw [hx2] at hB
                exact ⟨H11.out.1.below hB, H11.out.2.1.below hB, H11.out.2.2.below hB⟩
              have H12 := Aside0.mk hA2
              clear hA2
              have sl : ∀ W : World, (Instr.slice 27 (.slice (some ⟨G, 0, none⟩) 7680 7680) (some (.int .i64 768)) none none).run Try.prog W = .ok (.slice (some ⟨G, 768, none⟩) (7680 - 768) (7680 - 768)) W := fun W => by
                rw [sl8_l W _ 7680 7680 .i64 768 (by omega) (by have := HIM.out.2.2.2; have := HA1.out; omega), show (768 : Int).toNat = 768 by omega]
                unfold cutA
                rw [if_neg (by have := HIM.out.2.2.2; have := HA1.out; omega), Option.map_some, add_plain]
              have hkp : 0 < k0 := by have := HK.out; omega
              have m0 : IntKind.i64.wrap (3 * 256) = 768 := by decide
              have m0' : IntKind.i64.wrap 768 = 768 := by decide
              obtain ⟨q0, hq0⟩ : ∃ x, 256 * k0 = x := ⟨_, rfl⟩
              have cJ := join8_any A7 k0 c7 hs l0 x0.heap.size x2 (by have := HK.out; omega) (by omega) H12.out.2.1 HE0.out.2.2.1 H12.out.2.2 HE0.out.2.2.2
              rw [hq0] at cJ
              have HQ0 := Aside0.mk hq0
              clear hq0
              refine wp_region_M (fun j => decide (j < 10)) (fun w' => w'.cell? ⟨M, 0, none⟩ = some (.slice (some ⟨a5, 0, none⟩) k0 c5) ∧ w'.cell? ⟨a5, 0, none⟩ = some (.int .i64 3)) (by kernel_rfl) ?_
              rw [hx2]
              clear hx2
              refine wpAnyM_take (i := 0) (v := ?_) (by simp only [List.getElem?_toArray, List.getElem?_cons_succ, List.getElem?_cons_zero]; rfl) (by kernel_rfl) (by kernel_rfl) (by kernel_rfl) (by kernel_rfl) (by exact fun _ _ _ h => h) (Or.inl ⟨by rfl, ?_⟩) (And.intro H12.out.1.cN.2.2.1 (run_cell (z := 3) H12.out.1.o5 (by have := HK.out; omega))) ?_
              rotate_left
              · (intro w' hSw; (try dsimp only at hSw); go_simp; try with_reducible rfl)
              try simp only [Act.put, List.setIfInBounds_toArray, List.set_cons_zero, List.set_cons_succ]
              refine wpAnyM_take (i := 1) (v := ?_) (by simp only [List.getElem?_toArray, List.getElem?_cons_succ, List.getElem?_cons_zero]; rfl) (by kernel_rfl) (by kernel_rfl) (by kernel_rfl) (by kernel_rfl) (by exact fun _ _ _ h => h) (Or.inl ⟨by rfl, ?_⟩) (And.intro H12.out.1.cN.2.2.1 (run_cell (z := 3) H12.out.1.o5 (by have := HK.out; omega))) ?_
              rotate_left
              · (intro w' hSw; (try dsimp only at hSw); go_simp; try with_reducible rfl)
              try simp only [Act.put, List.setIfInBounds_toArray, List.set_cons_zero, List.set_cons_succ]
              refine wpAnyM_take (i := 2) (v := ?_) (by simp only [List.getElem?_toArray, List.getElem?_cons_succ, List.getElem?_cons_zero]; rfl) (by kernel_rfl) (by kernel_rfl) (by kernel_rfl) (by kernel_rfl) (by exact fun _ _ _ h => h) (Or.inl ⟨by rfl, ?_⟩) (And.intro H12.out.1.cN.2.2.1 (run_cell (z := 3) H12.out.1.o5 (by have := HK.out; omega))) ?_
              rotate_left
              · (intro w' hSw; (try dsimp only at hSw); go_simp; try with_reducible rfl)
              try simp only [Act.put, List.setIfInBounds_toArray, List.set_cons_zero, List.set_cons_succ]
              refine wpAnyM_take (i := 3) (v := ?_) (by simp only [List.getElem?_toArray, List.getElem?_cons_succ, List.getElem?_cons_zero]; rfl) (by kernel_rfl) (by kernel_rfl) (by kernel_rfl) (by kernel_rfl) (by exact fun _ _ _ h => h) (Or.inl ⟨by rfl, ?_⟩) (And.intro H12.out.1.cN.2.2.1 (run_cell (z := 3) H12.out.1.o5 (by have := HK.out; omega))) ?_
              rotate_left
              · (intro w' hSw; (try dsimp only at hSw); go_simp; try with_reducible rfl)
              try simp only [Act.put, List.setIfInBounds_toArray, List.set_cons_zero, List.set_cons_succ]
              refine wpAnyM_take (i := 4) (v := ?_) (by simp only [List.getElem?_toArray, List.getElem?_cons_succ, List.getElem?_cons_zero]; rfl) (by kernel_rfl) (by kernel_rfl) (by kernel_rfl) (by kernel_rfl) (by exact fun _ _ _ h => h) (Or.inl ⟨by rfl, ?_⟩) (And.intro H12.out.1.cN.2.2.1 (run_cell (z := 3) H12.out.1.o5 (by have := HK.out; omega))) ?_
              rotate_left
              · (intro w' hSw; (try dsimp only at hSw); go_simp; try with_reducible rfl)
              try simp only [Act.put, List.setIfInBounds_toArray, List.set_cons_zero, List.set_cons_succ]
              refine wpAnyM_take (i := 5) (v := ?_) (by simp only [List.getElem?_toArray, List.getElem?_cons_succ, List.getElem?_cons_zero]; rfl) (by kernel_rfl) (by kernel_rfl) (by kernel_rfl) (by kernel_rfl) (by exact fun _ _ _ h => h) (Or.inl ⟨by rfl, ?_⟩) (And.intro H12.out.1.cN.2.2.1 (run_cell (z := 3) H12.out.1.o5 (by have := HK.out; omega))) ?_
              rotate_left
              · (intro w' hSw; (try dsimp only at hSw); go_simp; try with_reducible rfl)
              try simp only [Act.put, List.setIfInBounds_toArray, List.set_cons_zero, List.set_cons_succ]
              refine wpAnyM_take (i := 6) (v := ?_) (by simp only [List.getElem?_toArray, List.getElem?_cons_succ, List.getElem?_cons_zero]; rfl) (by kernel_rfl) (by kernel_rfl) (by kernel_rfl) (by kernel_rfl) (by exact fun _ _ _ h => h) (Or.inl ⟨by rfl, ?_⟩) (And.intro H12.out.1.cN.2.2.1 (run_cell (z := 3) H12.out.1.o5 (by have := HK.out; omega))) ?_
              rotate_left
              · (intro w' hSw; (try dsimp only at hSw); go_simp; try with_reducible rfl)
              try simp only [Act.put, List.setIfInBounds_toArray, List.set_cons_zero, List.set_cons_succ]
              refine wpAnyM_take (i := 7) (v := ?_) (by simp only [List.getElem?_toArray, List.getElem?_cons_succ, List.getElem?_cons_zero]; rfl) (by kernel_rfl) (by kernel_rfl) (by kernel_rfl) (by kernel_rfl) (by exact fun _ _ _ h => h) (Or.inl ⟨by rfl, ?_⟩) (And.intro H12.out.1.cN.2.2.1 (run_cell (z := 3) H12.out.1.o5 (by have := HK.out; omega))) ?_
              rotate_left
              · (intro w' hSw; (try dsimp only at hSw); go_simp; try with_reducible rfl)
              try simp only [Act.put, List.setIfInBounds_toArray, List.set_cons_zero, List.set_cons_succ]
              refine wpAnyM_take (i := 8) (v := ?_) (by simp only [List.getElem?_toArray, List.getElem?_cons_succ, List.getElem?_cons_zero]; rfl) (by kernel_rfl) (by kernel_rfl) (by kernel_rfl) (by kernel_rfl) (by exact fun _ _ _ h => h) (Or.inl ⟨by rfl, ?_⟩) (And.intro H12.out.1.cN.2.2.1 (run_cell (z := 3) H12.out.1.o5 (by have := HK.out; omega))) ?_
              rotate_left
              · (intro w' hSw; (try dsimp only at hSw); go_simp; try with_reducible rfl)
              try simp only [Act.put, List.setIfInBounds_toArray, List.set_cons_zero, List.set_cons_succ]
              refine wpAnyM_one (i := 9) (by kernel_rfl) (by simp only [List.getElem?_toArray, List.getElem?_cons_succ, List.getElem?_cons_zero]; rfl) ?_
              go_wp2_with (go_at_call 22; refine cJ.mono ?_; rintro e x3 ⟨gj, cj, rfl, hgj, hbj, hB⟩; (have H13 := Aside0.mk (And.intro (H12.out.1.below hB) hbj)); clear hgj hbj hB)
              clear cJ
              refine ⟨And.intro H13.out.1.cN.2.2.1 (run_cell (z := 3) H13.out.1.o5 (by have := HK.out; omega)), ?_⟩
              try simp only [Act.put, List.setIfInBounds_toArray, List.set_cons_zero, List.set_cons_succ]
              refine wpAnyM_one (i := 10) (by kernel_rfl) (by simp only [List.getElem?_toArray, List.getElem?_cons_succ, List.getElem?_cons_zero]; rfl) ?_
              refine wpl_cp8 w.heap.size (by rfl) (.tmp 95) (.tmp 97) (by rfl) G 768 7680 7680 (7680 - 768) (7680 - 768) im0 l0.flatten (some ⟨gj, 0, none⟩) q0 cj (by rfl) (by rfl) H13.out.1.img H13.out.2 (by have := HQ0.out; have := HK.out; omega) (by have := HQ0.out; have := HIM.out.2.2.2; have := HA1.out; omega) (by have := HQ0.out; have := HIM.out.2.2.2; have := HA1.out; omega) ?_
              intro w9 hP9
              refine wpl_nil ⟨rfl, (fun h => absurd h (by decide)), ?_⟩
              try simp only [Act.put, List.setIfInBounds_toArray, List.set_cons_zero, List.set_cons_succ]
              refine wpAnyM_done (by kernel_rfl) ?_ _
              clear sl
              go_wp2_with fail
              go_roundg 1
              case measure => have := hk.out; omega
              case rel =>
                have hP := hP9.out
                rw [HIM.out.2.1] at hP
                have hl := HL.out
                exact ⟨1, by rfl, by rfl, ⟨H13.out.1.put hP.2 hP.1 (by omega) (by omega) (by omega) (by omega) HX.out.1 HY.out.1⟩⟩
            · have hv2 : _ = Value.int .i64 1 := hv
              subst hv2
              have hI : Aside0 (AS w N M G w3.heap.size A n c xs B m d ys (some ⟨a5, 0, none⟩) k0 c5 (runI 3 k0) (some ⟨a6, 0, none⟩) k1 c6 (runI a1 k1) im1 wr) := hI
              have hix := fun W => ixB g h W
              go_upto_region 19 with fail
              clear hix
              obtain ⟨x0, hx0⟩ : ∃ X, wr.drew = X := ⟨_, rfl⟩
              have hA0 : AS w N M G w3.heap.size A n c xs B m d ys (some ⟨a5, 0, none⟩) k0 c5 (runI 3 k0) (some ⟨a6, 0, none⟩) k1 c6 (runI a1 k1) im1 x0 := by rw [← hx0]; exact hI.out.below (below_drew (Below.refl _ wr))
              have H10 := Aside0.mk hA0
              clear hA0
              refine wp_region_M (fun j => decide (j < 20)) (fun w' => w'.cell? ⟨N, 0, none⟩ = some (.slice A n c) ∧ w'.cell? ⟨N, 1, none⟩ = some (.slice B m d) ∧ w'.cell? ⟨M, 0, none⟩ = some (.slice (some ⟨a5, 0, none⟩) k0 c5) ∧ w'.cell? ⟨M, 1, none⟩ = some (.slice (some ⟨a6, 0, none⟩) k1 c6)) (by kernel_rfl) ?_
              rw [hx0]
              clear hx0
              refine wpAnyM_take (i := 0) (v := ?_) (by simp only [List.getElem?_toArray, List.getElem?_cons_succ, List.getElem?_cons_zero]; rfl) (by kernel_rfl) (by kernel_rfl) (by kernel_rfl) (by kernel_rfl) (by exact fun _ _ _ h => h) (Or.inl ⟨by rfl, ?_⟩) H10.out.cN ?_
              rotate_left
              · (intro w' hSw; (try dsimp only at hSw); go_simp; try with_reducible rfl)
              try simp only [Act.put, List.setIfInBounds_toArray, List.set_cons_zero, List.set_cons_succ]
              refine wpAnyM_take (i := 1) (v := ?_) (by simp only [List.getElem?_toArray, List.getElem?_cons_succ, List.getElem?_cons_zero]; rfl) (by kernel_rfl) (by kernel_rfl) (by kernel_rfl) (by kernel_rfl) (by exact fun _ _ _ h => h) (Or.inl ⟨by rfl, ?_⟩) H10.out.cN ?_
              rotate_left
              · (intro w' hSw; (try dsimp only at hSw); go_simp; try with_reducible rfl)
              try simp only [Act.put, List.setIfInBounds_toArray, List.set_cons_zero, List.set_cons_succ]
              refine wpAnyM_take (i := 2) (v := ?_) (by simp only [List.getElem?_toArray, List.getElem?_cons_succ, List.getElem?_cons_zero]; rfl) (by kernel_rfl) (by kernel_rfl) (by kernel_rfl) (by kernel_rfl) (by exact fun _ _ _ h => h) (Or.inl ⟨by rfl, ?_⟩) H10.out.cN ?_
              rotate_left
              · (intro w' hSw; (try dsimp only at hSw); go_simp; try with_reducible rfl)
              try simp only [Act.put, List.setIfInBounds_toArray, List.set_cons_zero, List.set_cons_succ]
              refine wpAnyM_take (i := 3) (v := ?_) (by simp only [List.getElem?_toArray, List.getElem?_cons_succ, List.getElem?_cons_zero]; rfl) (by kernel_rfl) (by kernel_rfl) (by kernel_rfl) (by kernel_rfl) (by exact fun _ _ _ h => h) (Or.inl ⟨by rfl, ?_⟩) H10.out.cN ?_
              rotate_left
              · (intro w' hSw; (try dsimp only at hSw); go_simp; try with_reducible rfl)
              try simp only [Act.put, List.setIfInBounds_toArray, List.set_cons_zero, List.set_cons_succ]
              refine wpAnyM_take (i := 4) (v := ?_) (by simp only [List.getElem?_toArray, List.getElem?_cons_succ, List.getElem?_cons_zero]; rfl) (by kernel_rfl) (by kernel_rfl) (by kernel_rfl) (by kernel_rfl) (by exact fun _ _ _ h => h) (Or.inl ⟨by rfl, ?_⟩) H10.out.cN ?_
              rotate_left
              · (intro w' hSw; (try dsimp only at hSw); go_simp; try with_reducible rfl)
              try simp only [Act.put, List.setIfInBounds_toArray, List.set_cons_zero, List.set_cons_succ]
              refine wpAnyM_take (i := 5) (v := ?_) (by simp only [List.getElem?_toArray, List.getElem?_cons_succ, List.getElem?_cons_zero]; rfl) (by kernel_rfl) (by kernel_rfl) (by kernel_rfl) (by kernel_rfl) (by exact fun _ _ _ h => h) (Or.inl ⟨by rfl, ?_⟩) H10.out.cN ?_
              rotate_left
              · (intro w' hSw; (try dsimp only at hSw); go_simp; try with_reducible rfl)
              try simp only [Act.put, List.setIfInBounds_toArray, List.set_cons_zero, List.set_cons_succ]
              refine wpAnyM_take (i := 6) (v := ?_) (by simp only [List.getElem?_toArray, List.getElem?_cons_succ, List.getElem?_cons_zero]; rfl) (by kernel_rfl) (by kernel_rfl) (by kernel_rfl) (by kernel_rfl) (by exact fun _ _ _ h => h) (Or.inl ⟨by rfl, ?_⟩) H10.out.cN ?_
              rotate_left
              · (intro w' hSw; (try dsimp only at hSw); go_simp; try with_reducible rfl)
              try simp only [Act.put, List.setIfInBounds_toArray, List.set_cons_zero, List.set_cons_succ]
              refine wpAnyM_one (i := 7) (by kernel_rfl) (by simp only [List.getElem?_toArray, List.getElem?_cons_succ, List.getElem?_cons_zero]; rfl) ?_
              have cE := oencode_any h B m d ys (some ⟨a6, 0, none⟩) k1 c6 (runI a1 k1) x0 H10.out.hy H10.out.o6.rc (runI_bnd (by have := HA1.out; omega))
              rw [HE1.out.1, HE1.out.2.1, HE1.out.2.2.1] at cE
              go_wp2_with (go_at_call 21; refine cE.mono ?_; rintro e x1 ⟨A7, c7, hs, rfl, hO, hP, hB⟩; (have H11 := Aside0.mk (And.intro (H10.out.below hB) (And.intro hO hP))); clear hO hP hB)
              clear cE
              refine ⟨H11.out.1.cN, ?_⟩
              try simp only [Act.put, List.setIfInBounds_toArray, List.set_cons_zero, List.set_cons_succ]
              refine wpAnyM_take (i := 8) (v := ?_) (by simp only [List.getElem?_toArray, List.getElem?_cons_succ, List.getElem?_cons_zero]; rfl) (by kernel_rfl) (by kernel_rfl) (by kernel_rfl) (by kernel_rfl) (by exact fun _ _ _ h => h) (Or.inl ⟨by rfl, ?_⟩) H11.out.1.cN ?_
              rotate_left
              · (intro w' hSw; (try dsimp only at hSw); go_simp; try with_reducible rfl)
              try simp only [Act.put, List.setIfInBounds_toArray, List.set_cons_zero, List.set_cons_succ]
              refine wpAnyM_take (i := 9) (v := ?_) (by simp only [List.getElem?_toArray, List.getElem?_cons_succ, List.getElem?_cons_zero]; rfl) (by kernel_rfl) (by kernel_rfl) (by kernel_rfl) (by kernel_rfl) (by exact fun _ _ _ h => h) (Or.inl ⟨by rfl, ?_⟩) H11.out.1.cN ?_
              rotate_left
              · (intro w' hSw; (try dsimp only at hSw); go_simp; try with_reducible rfl)
              try simp only [Act.put, List.setIfInBounds_toArray, List.set_cons_zero, List.set_cons_succ]
              refine wpAnyM_take (i := 10) (v := ?_) (by simp only [List.getElem?_toArray, List.getElem?_cons_succ, List.getElem?_cons_zero]; rfl) (by kernel_rfl) (by kernel_rfl) (by kernel_rfl) (by kernel_rfl) (by exact fun _ _ _ h => h) (Or.inl ⟨by rfl, ?_⟩) H11.out.1.cN ?_
              rotate_left
              · (intro w' hSw; (try dsimp only at hSw); go_simp; try with_reducible rfl)
              try simp only [Act.put, List.setIfInBounds_toArray, List.set_cons_zero, List.set_cons_succ]
              refine wpAnyM_take (i := 11) (v := ?_) (by simp only [List.getElem?_toArray, List.getElem?_cons_succ, List.getElem?_cons_zero]; rfl) (by kernel_rfl) (by kernel_rfl) (by kernel_rfl) (by kernel_rfl) (by exact fun _ _ _ h => h) (Or.inl ⟨by rfl, ?_⟩) H11.out.1.cN ?_
              rotate_left
              · (intro w' hSw; (try dsimp only at hSw); go_simp; try with_reducible rfl)
              try simp only [Act.put, List.setIfInBounds_toArray, List.set_cons_zero, List.set_cons_succ]
              refine wpAnyM_take (i := 12) (v := ?_) (by simp only [List.getElem?_toArray, List.getElem?_cons_succ, List.getElem?_cons_zero]; rfl) (by kernel_rfl) (by kernel_rfl) (by kernel_rfl) (by kernel_rfl) (by exact fun _ _ _ h => h) (Or.inl ⟨by rfl, ?_⟩) H11.out.1.cN ?_
              rotate_left
              · (intro w' hSw; (try dsimp only at hSw); go_simp; try with_reducible rfl)
              try simp only [Act.put, List.setIfInBounds_toArray, List.set_cons_zero, List.set_cons_succ]
              refine wpAnyM_done (by kernel_rfl) ?_ _
              go_upto_region 22 with fail
              obtain ⟨x2, hx2⟩ : ∃ X, x1.drew = X := ⟨_, rfl⟩
              have hA2 : AS w N M G w3.heap.size A n c xs B m d ys (some ⟨a5, 0, none⟩) k0 c5 (runI 3 k0) (some ⟨a6, 0, none⟩) k1 c6 (runI a1 k1) im1 x2 ∧ Oc x2 x0.heap.size 27 1 A7 k1 c7 (shl hs) ∧ Pgf x2 x0.heap.size hs l1 := by
                have hB := below_drew (Below.refl x1.heap.size x1)
                rw [hx2] at hB
                exact ⟨H11.out.1.below hB, H11.out.2.1.below hB, H11.out.2.2.below hB⟩
              have H12 := Aside0.mk hA2
              clear hA2
              have sl : ∀ W : World, (Instr.slice 27 (.slice (some ⟨G, 0, none⟩) 7680 7680) (some (.int .i64 (p1 : Int))) none none).run Try.prog W = .ok (.slice (some ⟨G, p1, none⟩) (7680 - p1) (7680 - p1)) W := fun W => by
                rw [sl8_l W _ 7680 7680 .i64 (p1 : Int) (by omega) (by have := HIM.out.2.2.2; have := HA1.out; omega), show ((p1 : Int) : Int).toNat = p1 by omega]
                unfold cutA
                rw [if_neg (by have := HIM.out.2.2.2; have := HA1.out; omega), Option.map_some, add_plain]
              have hkp : 0 < k1 := by have := HK.out; omega
              have m0 : IntKind.i64.wrap ((a1 : Int) * 256) = (p1 : Int) := (IntWalk.i64_in _ (by have := HA1.out; omega)).trans (by have := HIM.out.2.2.2; omega)
              obtain ⟨q0, hq0⟩ : ∃ x, 256 * k1 = x := ⟨_, rfl⟩
              have cJ := join8_any A7 k1 c7 hs l1 x0.heap.size x2 (by have := HK.out; omega) (by omega) H12.out.2.1 HE1.out.2.2.1 H12.out.2.2 HE1.out.2.2.2
              rw [hq0] at cJ
              have HQ0 := Aside0.mk hq0
              clear hq0
              refine wp_region_M (fun j => decide (j < 10)) (fun w' => w'.cell? ⟨M, 1, none⟩ = some (.slice (some ⟨a6, 0, none⟩) k1 c6) ∧ w'.cell? ⟨a6, 0, none⟩ = some (.int .i64 (a1 : Int))) (by kernel_rfl) ?_
              rw [hx2]
              clear hx2
              refine wpAnyM_take (i := 0) (v := ?_) (by simp only [List.getElem?_toArray, List.getElem?_cons_succ, List.getElem?_cons_zero]; rfl) (by kernel_rfl) (by kernel_rfl) (by kernel_rfl) (by kernel_rfl) (by exact fun _ _ _ h => h) (Or.inl ⟨by rfl, ?_⟩) (And.intro H12.out.1.cN.2.2.2 (run_cell H12.out.1.o6 (by have := HK.out; omega))) ?_
              rotate_left
              · (intro w' hSw; (try dsimp only at hSw); go_simp; try with_reducible rfl)
              try simp only [Act.put, List.setIfInBounds_toArray, List.set_cons_zero, List.set_cons_succ]
              refine wpAnyM_take (i := 1) (v := ?_) (by simp only [List.getElem?_toArray, List.getElem?_cons_succ, List.getElem?_cons_zero]; rfl) (by kernel_rfl) (by kernel_rfl) (by kernel_rfl) (by kernel_rfl) (by exact fun _ _ _ h => h) (Or.inl ⟨by rfl, ?_⟩) (And.intro H12.out.1.cN.2.2.2 (run_cell H12.out.1.o6 (by have := HK.out; omega))) ?_
              rotate_left
              · (intro w' hSw; (try dsimp only at hSw); go_simp; try with_reducible rfl)
              try simp only [Act.put, List.setIfInBounds_toArray, List.set_cons_zero, List.set_cons_succ]
              refine wpAnyM_take (i := 2) (v := ?_) (by simp only [List.getElem?_toArray, List.getElem?_cons_succ, List.getElem?_cons_zero]; rfl) (by kernel_rfl) (by kernel_rfl) (by kernel_rfl) (by kernel_rfl) (by exact fun _ _ _ h => h) (Or.inl ⟨by rfl, ?_⟩) (And.intro H12.out.1.cN.2.2.2 (run_cell H12.out.1.o6 (by have := HK.out; omega))) ?_
              rotate_left
              · (intro w' hSw; (try dsimp only at hSw); go_simp; try with_reducible rfl)
              try simp only [Act.put, List.setIfInBounds_toArray, List.set_cons_zero, List.set_cons_succ]
              refine wpAnyM_take (i := 3) (v := ?_) (by simp only [List.getElem?_toArray, List.getElem?_cons_succ, List.getElem?_cons_zero]; rfl) (by kernel_rfl) (by kernel_rfl) (by kernel_rfl) (by kernel_rfl) (by exact fun _ _ _ h => h) (Or.inl ⟨by rfl, ?_⟩) (And.intro H12.out.1.cN.2.2.2 (run_cell H12.out.1.o6 (by have := HK.out; omega))) ?_
              rotate_left
              · (intro w' hSw; (try dsimp only at hSw); go_simp; try with_reducible rfl)
              try simp only [Act.put, List.setIfInBounds_toArray, List.set_cons_zero, List.set_cons_succ]
              refine wpAnyM_take (i := 4) (v := ?_) (by simp only [List.getElem?_toArray, List.getElem?_cons_succ, List.getElem?_cons_zero]; rfl) (by kernel_rfl) (by kernel_rfl) (by kernel_rfl) (by kernel_rfl) (by exact fun _ _ _ h => h) (Or.inl ⟨by rfl, ?_⟩) (And.intro H12.out.1.cN.2.2.2 (run_cell H12.out.1.o6 (by have := HK.out; omega))) ?_
              rotate_left
              · (intro w' hSw; (try dsimp only at hSw); go_simp; try with_reducible rfl)
              try simp only [Act.put, List.setIfInBounds_toArray, List.set_cons_zero, List.set_cons_succ]
              refine wpAnyM_take (i := 5) (v := ?_) (by simp only [List.getElem?_toArray, List.getElem?_cons_succ, List.getElem?_cons_zero]; rfl) (by kernel_rfl) (by kernel_rfl) (by kernel_rfl) (by kernel_rfl) (by exact fun _ _ _ h => h) (Or.inl ⟨by rfl, ?_⟩) (And.intro H12.out.1.cN.2.2.2 (run_cell H12.out.1.o6 (by have := HK.out; omega))) ?_
              rotate_left
              · (intro w' hSw; (try dsimp only at hSw); go_simp; try with_reducible rfl)
              try simp only [Act.put, List.setIfInBounds_toArray, List.set_cons_zero, List.set_cons_succ]
              refine wpAnyM_take (i := 6) (v := ?_) (by simp only [List.getElem?_toArray, List.getElem?_cons_succ, List.getElem?_cons_zero]; rfl) (by kernel_rfl) (by kernel_rfl) (by kernel_rfl) (by kernel_rfl) (by exact fun _ _ _ h => h) (Or.inl ⟨by rfl, ?_⟩) (And.intro H12.out.1.cN.2.2.2 (run_cell H12.out.1.o6 (by have := HK.out; omega))) ?_
              rotate_left
              · (intro w' hSw; (try dsimp only at hSw); go_simp; try with_reducible rfl)
              try simp only [Act.put, List.setIfInBounds_toArray, List.set_cons_zero, List.set_cons_succ]
              refine wpAnyM_take (i := 7) (v := ?_) (by simp only [List.getElem?_toArray, List.getElem?_cons_succ, List.getElem?_cons_zero]; rfl) (by kernel_rfl) (by kernel_rfl) (by kernel_rfl) (by kernel_rfl) (by exact fun _ _ _ h => h) (Or.inl ⟨by rfl, ?_⟩) (And.intro H12.out.1.cN.2.2.2 (run_cell H12.out.1.o6 (by have := HK.out; omega))) ?_
              rotate_left
              · (intro w' hSw; (try dsimp only at hSw); go_simp; try with_reducible rfl)
              try simp only [Act.put, List.setIfInBounds_toArray, List.set_cons_zero, List.set_cons_succ]
              refine wpAnyM_take (i := 8) (v := ?_) (by simp only [List.getElem?_toArray, List.getElem?_cons_succ, List.getElem?_cons_zero]; rfl) (by kernel_rfl) (by kernel_rfl) (by kernel_rfl) (by kernel_rfl) (by exact fun _ _ _ h => h) (Or.inl ⟨by rfl, ?_⟩) (And.intro H12.out.1.cN.2.2.2 (run_cell H12.out.1.o6 (by have := HK.out; omega))) ?_
              rotate_left
              · (intro w' hSw; (try dsimp only at hSw); go_simp; try with_reducible rfl)
              try simp only [Act.put, List.setIfInBounds_toArray, List.set_cons_zero, List.set_cons_succ]
              refine wpAnyM_one (i := 9) (by kernel_rfl) (by simp only [List.getElem?_toArray, List.getElem?_cons_succ, List.getElem?_cons_zero]; rfl) ?_
              go_wp2_with (go_at_call 22; refine cJ.mono ?_; rintro e x3 ⟨gj, cj, rfl, hgj, hbj, hB⟩; (have H13 := Aside0.mk (And.intro (H12.out.1.below hB) hbj)); clear hgj hbj hB)
              clear cJ
              refine ⟨And.intro H13.out.1.cN.2.2.2 (run_cell H13.out.1.o6 (by have := HK.out; omega)), ?_⟩
              try simp only [Act.put, List.setIfInBounds_toArray, List.set_cons_zero, List.set_cons_succ]
              refine wpAnyM_one (i := 10) (by kernel_rfl) (by simp only [List.getElem?_toArray, List.getElem?_cons_succ, List.getElem?_cons_zero]; rfl) ?_
              refine wpl_cp8 w.heap.size (by rfl) (.tmp 95) (.tmp 97) (by rfl) G p1 7680 7680 (7680 - p1) (7680 - p1) im1 l1.flatten (some ⟨gj, 0, none⟩) q0 cj (by rfl) (by rfl) H13.out.1.img H13.out.2 (by have := HQ0.out; have := HK.out; omega) (by have := HQ0.out; have := HIM.out.2.2.2; have := HA1.out; omega) (by have := HQ0.out; have := HIM.out.2.2.2; have := HA1.out; omega) ?_
              intro w9 hP9
              refine wpl_nil ⟨rfl, (fun h => absurd h (by decide)), ?_⟩
              try simp only [Act.put, List.setIfInBounds_toArray, List.set_cons_zero, List.set_cons_succ]
              refine wpAnyM_done (by kernel_rfl) ?_ _
              clear sl
              go_wp2_with fail
              go_roundg 0
              case measure => have := hk.out; omega
              case rel =>
                have hP := hP9.out
                rw [HIM.out.2.2.1] at hP
                have hl := HL.out
                exact ⟨2, by rfl, by rfl, ⟨H13.out.1.put hP.2 hP.1 (by omega) (by omega) (by omega) (by omega) HX.out.1 HY.out.1⟩⟩
            · have hv2 : _ = Value.int .i64 2 := hv
              subst hv2
              go_wp2_with fail
              go_meet
              exact hI
        case rest =>
          obtain ⟨w6, rfl⟩ : ∃ X, X = wc := ⟨wc, rfl⟩
          have H6 := hcut
          clear hcut
          have hst := stands_two (z := im0) (im1 := im1) (im2 := im2) (g := g) (h := h) (xs := xs) (ys := ys) (k0 := k0) (k1 := k1) (a1 := a1) (p1 := p1) (l0 := l0) (l1 := l1) (by rw [← HIM.out.1, List.length_replicate]) HK.out.1 HK.out.2 hb0 hb1 HA1.out HIM.out.2.2.2 (by rw [HX.out.2]; exact HM.out.1) (by rw [HY.out.2]; exact HM.out.2) HE0.out.1 HE1.out.1 (by rw [flat_len HE0.out.2.2.2, HE0.out.2.2.1]) (by rw [flat_len HE1.out.2.2.2, HE1.out.2.2.1]) HIM.out.2.1 HIM.out.2.2.1
          have HST := Aside0.mk hst
          clear hst
          go_upto_region 25 with fail
          obtain ⟨w7, hw7⟩ : ∃ X, w6.alloc (.cells #[.int .i64 0] 3) = X := ⟨_, rfl⟩
          obtain ⟨T, hT⟩ : ∃ X, w6.heap.size = X := ⟨_, rfl⟩
          have hB7 := (Below.refl _ w6).alloc (Nat.le_refl _) (.cells #[.int .i64 0] 3)
          have hr7 := heap_alloc_new w6 (.cells #[.int .i64 0] 3)
          rw [hw7] at hB7 hr7
          rw [hT] at hr7
          rw [hw7, hT]
          have H7 := Aside0.mk (And.intro hT (And.intro hB7 (show TBox T 0 w7 from hr7)))
          have HAT := Aside0.mk (show ∀ W, OnlyB T w7 W → AS w N M G w3.heap.size A n c xs B m d ys (some ⟨a5, 0, none⟩) k0 c5 (runI 3 k0) (some ⟨a6, 0, none⟩) k1 c6 (runI a1 k1) im2 W from fun W ho => H6.out.below (ho.below H7.out.2.1 (by have := H7.out.1; omega) (Nat.le_refl _)))
          clear hw7 hT hB7 hr7
          go_upto_block 6 with fail
          go_cut [] (fun w8 => Aside0 (OnlyB T w7 w8))
          case first =>
            go_wp2_with fail
            go_loopg [103] 2 (fun gk v103 wr => ∃ (j k' : Nat), Aside (gk + j = 2) ∧ v103 = .int .i64 (j : Int) ∧ Aside0 (OnlyB T w7 wr ∧ TBox T k' wr))
            case atStart => exact ⟨0, 0, by rfl, rfl, ⟨OnlyB.refl _ _, H7.out.2.2⟩⟩
            case round =>
              obtain ⟨j, k', hk, hv, hI⟩ := hrel
              obtain rfl | rfl | rfl : j = 0 ∨ j = 1 ∨ j = 2 := by have := hk.out; omega
              · have hv2 : _ = Value.int .i64 0 := hv
                subst hv2
                have hix := fun W => ixA g h W
                go_upto_region 28 with fail
                clear hix
                obtain ⟨x0, hx0⟩ : ∃ X, wr.drew = X := ⟨_, rfl⟩
                have hA0 : OnlyB T w7 x0 ∧ TBox T k' x0 := by rw [← hx0]; exact ⟨hI.out.1.drew, hI.out.2⟩
                have H10 := Aside0.mk (And.intro (HAT.out x0 hA0.1) hA0)
                clear hA0
                have hkp : 0 < k0 := by have := HK.out; omega
                refine wp_region_M (fun j => decide (j < 21)) (fun w' => (w'.cell? ⟨N, 0, none⟩ = some (.slice A n c) ∧ w'.cell? ⟨N, 1, none⟩ = some (.slice B m d) ∧ w'.cell? ⟨M, 0, none⟩ = some (.slice (some ⟨a5, 0, none⟩) k0 c5) ∧ w'.cell? ⟨M, 1, none⟩ = some (.slice (some ⟨a6, 0, none⟩) k1 c6)) ∧ w'.cell? ⟨a5, 0, none⟩ = some (.int .i64 3)) (by kernel_rfl) ?_
                rw [hx0]
                clear hx0
                refine wpAnyM_take (i := 0) (v := ?_) (by simp only [List.getElem?_toArray, List.getElem?_cons_succ, List.getElem?_cons_zero]; rfl) (by kernel_rfl) (by kernel_rfl) (by kernel_rfl) (by kernel_rfl) (by exact fun _ _ _ h => h) (Or.inl ⟨by rfl, ?_⟩) (And.intro H10.out.1.cN (run_cell (z := 3) H10.out.1.o5 (by have := HK.out; omega))) ?_
                rotate_left
                · (intro w' hSw; (try dsimp only at hSw); go_simp; try with_reducible rfl)
                try simp only [Act.put, List.setIfInBounds_toArray, List.set_cons_zero, List.set_cons_succ]
                refine wpAnyM_take (i := 2) (v := ?_) (by simp only [List.getElem?_toArray, List.getElem?_cons_succ, List.getElem?_cons_zero]; rfl) (by kernel_rfl) (by kernel_rfl) (by kernel_rfl) (by kernel_rfl) (by exact fun _ _ _ h => h) (Or.inl ⟨by rfl, ?_⟩) (And.intro H10.out.1.cN (run_cell (z := 3) H10.out.1.o5 (by have := HK.out; omega))) ?_
                rotate_left
                · (intro w' hSw; (try dsimp only at hSw); go_simp; try with_reducible rfl)
                try simp only [Act.put, List.setIfInBounds_toArray, List.set_cons_zero, List.set_cons_succ]
                refine wpAnyM_take (i := 3) (v := ?_) (by simp only [List.getElem?_toArray, List.getElem?_cons_succ, List.getElem?_cons_zero]; rfl) (by kernel_rfl) (by kernel_rfl) (by kernel_rfl) (by kernel_rfl) (by exact fun _ _ _ h => h) (Or.inl ⟨by rfl, ?_⟩) (And.intro H10.out.1.cN (run_cell (z := 3) H10.out.1.o5 (by have := HK.out; omega))) ?_
                rotate_left
                · (intro w' hSw; (try dsimp only at hSw); go_simp; try with_reducible rfl)
                try simp only [Act.put, List.setIfInBounds_toArray, List.set_cons_zero, List.set_cons_succ]
                refine wpAnyM_take (i := 4) (v := ?_) (by simp only [List.getElem?_toArray, List.getElem?_cons_succ, List.getElem?_cons_zero]; rfl) (by kernel_rfl) (by kernel_rfl) (by kernel_rfl) (by kernel_rfl) (by exact fun _ _ _ h => h) (Or.inl ⟨by rfl, ?_⟩) (And.intro H10.out.1.cN (run_cell (z := 3) H10.out.1.o5 (by have := HK.out; omega))) ?_
                rotate_left
                · (intro w' hSw; (try dsimp only at hSw); go_simp; try with_reducible rfl)
                try simp only [Act.put, List.setIfInBounds_toArray, List.set_cons_zero, List.set_cons_succ]
                refine wpAnyM_take (i := 5) (v := ?_) (by simp only [List.getElem?_toArray, List.getElem?_cons_succ, List.getElem?_cons_zero]; rfl) (by kernel_rfl) (by kernel_rfl) (by kernel_rfl) (by kernel_rfl) (by exact fun _ _ _ h => h) (Or.inl ⟨by rfl, ?_⟩) (And.intro H10.out.1.cN (run_cell (z := 3) H10.out.1.o5 (by have := HK.out; omega))) ?_
                rotate_left
                · (intro w' hSw; (try dsimp only at hSw); go_simp; try with_reducible rfl)
                try simp only [Act.put, List.setIfInBounds_toArray, List.set_cons_zero, List.set_cons_succ]
                refine wpAnyM_take (i := 6) (v := ?_) (by simp only [List.getElem?_toArray, List.getElem?_cons_succ, List.getElem?_cons_zero]; rfl) (by kernel_rfl) (by kernel_rfl) (by kernel_rfl) (by kernel_rfl) (by exact fun _ _ _ h => h) (Or.inl ⟨by rfl, ?_⟩) (And.intro H10.out.1.cN (run_cell (z := 3) H10.out.1.o5 (by have := HK.out; omega))) ?_
                rotate_left
                · (intro w' hSw; (try dsimp only at hSw); go_simp; try with_reducible rfl)
                try simp only [Act.put, List.setIfInBounds_toArray, List.set_cons_zero, List.set_cons_succ]
                refine wpAnyM_take (i := 7) (v := ?_) (by simp only [List.getElem?_toArray, List.getElem?_cons_succ, List.getElem?_cons_zero]; rfl) (by kernel_rfl) (by kernel_rfl) (by kernel_rfl) (by kernel_rfl) (by exact fun _ _ _ h => h) (Or.inl ⟨by rfl, ?_⟩) (And.intro H10.out.1.cN (run_cell (z := 3) H10.out.1.o5 (by have := HK.out; omega))) ?_
                rotate_left
                · (intro w' hSw; (try dsimp only at hSw); go_simp; try with_reducible rfl)
                try simp only [Act.put, List.setIfInBounds_toArray, List.set_cons_zero, List.set_cons_succ]
                refine wpAnyM_take (i := 8) (v := ?_) (by simp only [List.getElem?_toArray, List.getElem?_cons_succ, List.getElem?_cons_zero]; rfl) (by kernel_rfl) (by kernel_rfl) (by kernel_rfl) (by kernel_rfl) (by exact fun _ _ _ h => h) (Or.inl ⟨by rfl, ?_⟩) (And.intro H10.out.1.cN (run_cell (z := 3) H10.out.1.o5 (by have := HK.out; omega))) ?_
                rotate_left
                · (intro w' hSw; (try dsimp only at hSw); go_simp; try with_reducible rfl)
                try simp only [Act.put, List.setIfInBounds_toArray, List.set_cons_zero, List.set_cons_succ]
                refine wpAnyM_take (i := 9) (v := ?_) (by simp only [List.getElem?_toArray, List.getElem?_cons_succ, List.getElem?_cons_zero]; rfl) (by kernel_rfl) (by kernel_rfl) (by kernel_rfl) (by kernel_rfl) (by exact fun _ _ _ h => h) (Or.inl ⟨by rfl, ?_⟩) (And.intro H10.out.1.cN (run_cell (z := 3) H10.out.1.o5 (by have := HK.out; omega))) ?_
                rotate_left
                · (intro w' hSw; (try dsimp only at hSw); go_simp; try with_reducible rfl)
                try simp only [Act.put, List.setIfInBounds_toArray, List.set_cons_zero, List.set_cons_succ]
                refine wpAnyM_take (i := 10) (v := ?_) (by simp only [List.getElem?_toArray, List.getElem?_cons_succ, List.getElem?_cons_zero]; rfl) (by kernel_rfl) (by kernel_rfl) (by kernel_rfl) (by kernel_rfl) (by exact fun _ _ _ h => h) (Or.inl ⟨by rfl, ?_⟩) (And.intro H10.out.1.cN (run_cell (z := 3) H10.out.1.o5 (by have := HK.out; omega))) ?_
                rotate_left
                · (intro w' hSw; (try dsimp only at hSw); go_simp; try with_reducible rfl)
                try simp only [Act.put, List.setIfInBounds_toArray, List.set_cons_zero, List.set_cons_succ]
                refine wpAnyM_one (i := 1) (by kernel_rfl) (by simp only [List.getElem?_toArray, List.getElem?_cons_succ, List.getElem?_cons_zero]; rfl) ?_
                go_wp2_with (go_at_call 17; refine (reader_any (some ⟨G, 0, none⟩) 7680 7680 T x0).mono ?_; rintro e x1 ⟨rfl, hx1⟩; (have HX1 := Aside0.mk hx1); clear hx1)
                have hB11 : Below x0.heap.size x0 x1 := by rw [HX1.out]; exact (((Below.refl _ x0).alloc (Nat.le_refl _) _).alloc (by simp) _)
                have hp1 : x1.heap[x0.heap.size + 1]? = some (.cells #[.pointer (some ⟨T, 0, none⟩)] 35) := by
                  have h9 := heap_alloc_new (x0.alloc (.cells #[.slice (some ⟨G, 0, none⟩) 7680 7680] 27)) (.cells #[.pointer (some ⟨T, 0, none⟩)] 35)
                  rw [show (x0.alloc (.cells #[.slice (some ⟨G, 0, none⟩) 7680 7680] 27)).heap.size = x0.heap.size + 1 by simp] at h9
                  rw [HX1.out]
                  exact h9
                have hp2 : x1.heap[x0.heap.size]? = some (.cells #[.slice (some ⟨G, 0, none⟩) 7680 7680] 27) := by
                  rw [HX1.out]
                  exact (Below.heap_alloc (x0.alloc (.cells #[.slice (some ⟨G, 0, none⟩) 7680 7680] 27)) (.cells #[.pointer (some ⟨T, 0, none⟩)] 35) x0.heap.size (by simp)).trans (heap_alloc_new x0 (.cells #[.slice (some ⟨G, 0, none⟩) 7680 7680] 27))
                have hTx : T < x0.heap.size := (Array.getElem?_eq_some_iff.1 H10.out.2.2).1
                have hT11 : TBox T k' x1 := (hB11.block T hTx).trans H10.out.2.2
                have H11 := Aside0.mk (And.intro (H10.out.1.below hB11) (And.intro (H10.out.2.1.trans (OnlyB.of_below hB11)) hT11))
                have hGT : G ≠ T := by have := HL.out; have := H7.out; have := (Array.getElem?_eq_some_iff.1 H6.out.rm).1; omega
                have hrd := im_rdr (x0.heap.size + 1) x0.heap.size T (some ⟨G, 0, none⟩) 7680 7680 im2 x1 (by have := hB11.size; omega) hp1 hp2 H11.out.1.img.bs (by omega) (by omega) (by omega) (fun ad e _ => by injection e with e; rw [← e]; exact hGT)
                have hcall := odecode_any hrd k' 3 (n : Int) x1 (OnlyB.refl _ _) hT11 ⟨by omega, by have := HA1.out; omega⟩ ⟨by omega, by have := HX.out.1.lim; omega⟩
                have hod := st_od HST.out.1
                rw [HX.out.2] at hod
                unfold DecPost at hcall
                rw [hod.2.2.1, hod.2.2.2.1, hod.2.2.2.2, hod.2.1, HX.out.2, runI_len] at hcall
                clear hod hrd hp1 hp2 hT11 hB11 hGT
                refine ⟨And.intro H11.out.1.cN (run_cell (z := 3) H11.out.1.o5 (by have := HK.out; omega)), ?_⟩
                try simp only [Act.put, List.setIfInBounds_toArray, List.set_cons_zero, List.set_cons_succ]
                refine wpAnyM_one (i := 11) (by kernel_rfl) (by simp only [List.getElem?_toArray, List.getElem?_cons_succ, List.getElem?_cons_zero]; rfl) ?_
                go_wp2_with (go_at_call 16; refine hcall.mono ?_; rintro e x2 ⟨A8, c8, A9, c9, k2, rfl, hO, hI2, hx2, hk2, ho⟩; (have H12 := Aside0.mk (And.intro (HAT.out x2 (H11.out.2.1.trans ho)) (And.intro (H11.out.2.1.trans ho) (And.intro hx2 hO.bs)))); clear hO hI2 hx2 hk2 ho)
                clear hcall
                refine ⟨And.intro H12.out.1.cN (run_cell (z := 3) H12.out.1.o5 (by have := HK.out; omega)), ?_⟩
                try simp only [Act.put, List.setIfInBounds_toArray, List.set_cons_zero, List.set_cons_succ]
                refine wpAnyM_take (i := 12) (v := ?_) (by simp only [List.getElem?_toArray, List.getElem?_cons_succ, List.getElem?_cons_zero]; rfl) (by kernel_rfl) (by kernel_rfl) (by kernel_rfl) (by kernel_rfl) (by exact fun _ _ _ h => h) (Or.inl ⟨by rfl, ?_⟩) (And.intro H12.out.1.cN (run_cell (z := 3) H12.out.1.o5 (by have := HK.out; omega))) ?_
                rotate_left
                · (intro w' hSw; (try dsimp only at hSw); go_simp; try with_reducible rfl)
                try simp only [Act.put, List.setIfInBounds_toArray, List.set_cons_zero, List.set_cons_succ]
                refine wpAnyM_take (i := 13) (v := ?_) (by simp only [List.getElem?_toArray, List.getElem?_cons_succ, List.getElem?_cons_zero]; rfl) (by kernel_rfl) (by kernel_rfl) (by kernel_rfl) (by kernel_rfl) (by exact fun _ _ _ h => h) (Or.inl ⟨by rfl, ?_⟩) (And.intro H12.out.1.cN (run_cell (z := 3) H12.out.1.o5 (by have := HK.out; omega))) ?_
                rotate_left
                · (intro w' hSw; (try dsimp only at hSw); go_simp; try with_reducible rfl)
                try simp only [Act.put, List.setIfInBounds_toArray, List.set_cons_zero, List.set_cons_succ]
                refine wpAnyM_take (i := 14) (v := ?_) (by simp only [List.getElem?_toArray, List.getElem?_cons_succ, List.getElem?_cons_zero]; rfl) (by kernel_rfl) (by kernel_rfl) (by kernel_rfl) (by kernel_rfl) (by exact fun _ _ _ h => h) (Or.inl ⟨by rfl, ?_⟩) (And.intro H12.out.1.cN (run_cell (z := 3) H12.out.1.o5 (by have := HK.out; omega))) ?_
                rotate_left
                · (intro w' hSw; (try dsimp only at hSw); go_simp; try with_reducible rfl)
                try simp only [Act.put, List.setIfInBounds_toArray, List.set_cons_zero, List.set_cons_succ]
                refine wpAnyM_take (i := 15) (v := ?_) (by simp only [List.getElem?_toArray, List.getElem?_cons_succ, List.getElem?_cons_zero]; rfl) (by kernel_rfl) (by kernel_rfl) (by kernel_rfl) (by kernel_rfl) (by exact fun _ _ _ h => h) (Or.inl ⟨by rfl, ?_⟩) (And.intro H12.out.1.cN (run_cell (z := 3) H12.out.1.o5 (by have := HK.out; omega))) ?_
                rotate_left
                · (intro w' hSw; (try dsimp only at hSw); go_simp; try with_reducible rfl)
                try simp only [Act.put, List.setIfInBounds_toArray, List.set_cons_zero, List.set_cons_succ]
                refine wpAnyM_take (i := 16) (v := ?_) (by simp only [List.getElem?_toArray, List.getElem?_cons_succ, List.getElem?_cons_zero]; rfl) (by kernel_rfl) (by kernel_rfl) (by kernel_rfl) (by kernel_rfl) (by exact fun _ _ _ h => h) (Or.inl ⟨by rfl, ?_⟩) (And.intro H12.out.1.cN (run_cell (z := 3) H12.out.1.o5 (by have := HK.out; omega))) ?_
                rotate_left
                · (intro w' hSw; (try dsimp only at hSw); go_simp; try with_reducible rfl)
                try simp only [Act.put, List.setIfInBounds_toArray, List.set_cons_zero, List.set_cons_succ]
                refine wpAnyM_take (i := 17) (v := ?_) (by simp only [List.getElem?_toArray, List.getElem?_cons_succ, List.getElem?_cons_zero]; rfl) (by kernel_rfl) (by kernel_rfl) (by kernel_rfl) (by kernel_rfl) (by exact fun _ _ _ h => h) (Or.inl ⟨by rfl, ?_⟩) (And.intro H12.out.1.cN (run_cell (z := 3) H12.out.1.o5 (by have := HK.out; omega))) ?_
                rotate_left
                · (intro w' hSw; (try dsimp only at hSw); go_simp; try with_reducible rfl)
                try simp only [Act.put, List.setIfInBounds_toArray, List.set_cons_zero, List.set_cons_succ]
                refine wpAnyM_take (i := 18) (v := ?_) (by simp only [List.getElem?_toArray, List.getElem?_cons_succ, List.getElem?_cons_zero]; rfl) (by kernel_rfl) (by kernel_rfl) (by kernel_rfl) (by kernel_rfl) (by exact fun _ _ _ h => h) (Or.inl ⟨by rfl, ?_⟩) (And.intro H12.out.1.cN (run_cell (z := 3) H12.out.1.o5 (by have := HK.out; omega))) ?_
                rotate_left
                · (intro w' hSw; (try dsimp only at hSw); go_simp; try with_reducible rfl)
                try simp only [Act.put, List.setIfInBounds_toArray, List.set_cons_zero, List.set_cons_succ]
                refine wpAnyM_take (i := 19) (v := ?_) (by simp only [List.getElem?_toArray, List.getElem?_cons_succ, List.getElem?_cons_zero]; rfl) (by kernel_rfl) (by kernel_rfl) (by kernel_rfl) (by kernel_rfl) (by exact fun _ _ _ h => h) (Or.inl ⟨by rfl, ?_⟩) (And.intro H12.out.1.cN (run_cell (z := 3) H12.out.1.o5 (by have := HK.out; omega))) ?_
                rotate_left
                · (intro w' hSw; (try dsimp only at hSw); go_simp; try with_reducible rfl)
                try simp only [Act.put, List.setIfInBounds_toArray, List.set_cons_zero, List.set_cons_succ]
                refine wpAnyM_take (i := 20) (v := ?_) (by simp only [List.getElem?_toArray, List.getElem?_cons_succ, List.getElem?_cons_zero]; rfl) (by kernel_rfl) (by kernel_rfl) (by kernel_rfl) (by kernel_rfl) (by exact fun _ _ _ h => h) (Or.inl ⟨by rfl, ?_⟩) (And.intro H12.out.1.cN (run_cell (z := 3) H12.out.1.o5 (by have := HK.out; omega))) ?_
                rotate_left
                · (intro w' hSw; (try dsimp only at hSw); go_simp; try with_reducible rfl)
                try simp only [Act.put, List.setIfInBounds_toArray, List.set_cons_zero, List.set_cons_succ]
                refine wpAnyM_done (by kernel_rfl) ?_ _
                obtain ⟨y0, y1, y2, y3⟩ := H12.out.1.cN
                have hvq : (xs == xs) = true := beq_self_eq_true _
                have dg : (g != g) = false := bne_self_eq_false _
                have dk : ((k0 : Int) != (k0 : Int)) = false := bne_self_eq_false _
                go_wp2_with (go_at_call 20; refine (equal8_any A8 n c8 xs A n c xs x2 H12.out.2.2.2 H12.out.1.hx).mono ?_; rintro e x3 ⟨rfl, rfl⟩; rw [hvq])
                go_roundg 1
                case measure => have := hk.out; omega
                case rel => exact ⟨1, k2, by rfl, by rfl, ⟨H12.out.2.1, H12.out.2.2.1⟩⟩
              · have hv2 : _ = Value.int .i64 1 := hv
                subst hv2
                have hix := fun W => ixB g h W
                go_upto_region 28 with fail
                clear hix
                obtain ⟨x0, hx0⟩ : ∃ X, wr.drew = X := ⟨_, rfl⟩
                have hA0 : OnlyB T w7 x0 ∧ TBox T k' x0 := by rw [← hx0]; exact ⟨hI.out.1.drew, hI.out.2⟩
                have H10 := Aside0.mk (And.intro (HAT.out x0 hA0.1) hA0)
                clear hA0
                have hkp : 0 < k1 := by have := HK.out; omega
                refine wp_region_M (fun j => decide (j < 21)) (fun w' => (w'.cell? ⟨N, 0, none⟩ = some (.slice A n c) ∧ w'.cell? ⟨N, 1, none⟩ = some (.slice B m d) ∧ w'.cell? ⟨M, 0, none⟩ = some (.slice (some ⟨a5, 0, none⟩) k0 c5) ∧ w'.cell? ⟨M, 1, none⟩ = some (.slice (some ⟨a6, 0, none⟩) k1 c6)) ∧ w'.cell? ⟨a6, 0, none⟩ = some (.int .i64 (a1 : Int))) (by kernel_rfl) ?_
                rw [hx0]
                clear hx0
                refine wpAnyM_take (i := 0) (v := ?_) (by simp only [List.getElem?_toArray, List.getElem?_cons_succ, List.getElem?_cons_zero]; rfl) (by kernel_rfl) (by kernel_rfl) (by kernel_rfl) (by kernel_rfl) (by exact fun _ _ _ h => h) (Or.inl ⟨by rfl, ?_⟩) (And.intro H10.out.1.cN (run_cell H10.out.1.o6 (by have := HK.out; omega))) ?_
                rotate_left
                · (intro w' hSw; (try dsimp only at hSw); go_simp; try with_reducible rfl)
                try simp only [Act.put, List.setIfInBounds_toArray, List.set_cons_zero, List.set_cons_succ]
                refine wpAnyM_take (i := 2) (v := ?_) (by simp only [List.getElem?_toArray, List.getElem?_cons_succ, List.getElem?_cons_zero]; rfl) (by kernel_rfl) (by kernel_rfl) (by kernel_rfl) (by kernel_rfl) (by exact fun _ _ _ h => h) (Or.inl ⟨by rfl, ?_⟩) (And.intro H10.out.1.cN (run_cell H10.out.1.o6 (by have := HK.out; omega))) ?_
                rotate_left
                · (intro w' hSw; (try dsimp only at hSw); go_simp; try with_reducible rfl)
                try simp only [Act.put, List.setIfInBounds_toArray, List.set_cons_zero, List.set_cons_succ]
                refine wpAnyM_take (i := 3) (v := ?_) (by simp only [List.getElem?_toArray, List.getElem?_cons_succ, List.getElem?_cons_zero]; rfl) (by kernel_rfl) (by kernel_rfl) (by kernel_rfl) (by kernel_rfl) (by exact fun _ _ _ h => h) (Or.inl ⟨by rfl, ?_⟩) (And.intro H10.out.1.cN (run_cell H10.out.1.o6 (by have := HK.out; omega))) ?_
                rotate_left
                · (intro w' hSw; (try dsimp only at hSw); go_simp; try with_reducible rfl)
                try simp only [Act.put, List.setIfInBounds_toArray, List.set_cons_zero, List.set_cons_succ]
                refine wpAnyM_take (i := 4) (v := ?_) (by simp only [List.getElem?_toArray, List.getElem?_cons_succ, List.getElem?_cons_zero]; rfl) (by kernel_rfl) (by kernel_rfl) (by kernel_rfl) (by kernel_rfl) (by exact fun _ _ _ h => h) (Or.inl ⟨by rfl, ?_⟩) (And.intro H10.out.1.cN (run_cell H10.out.1.o6 (by have := HK.out; omega))) ?_
                rotate_left
                · (intro w' hSw; (try dsimp only at hSw); go_simp; try with_reducible rfl)
                try simp only [Act.put, List.setIfInBounds_toArray, List.set_cons_zero, List.set_cons_succ]
                refine wpAnyM_take (i := 5) (v := ?_) (by simp only [List.getElem?_toArray, List.getElem?_cons_succ, List.getElem?_cons_zero]; rfl) (by kernel_rfl) (by kernel_rfl) (by kernel_rfl) (by kernel_rfl) (by exact fun _ _ _ h => h) (Or.inl ⟨by rfl, ?_⟩) (And.intro H10.out.1.cN (run_cell H10.out.1.o6 (by have := HK.out; omega))) ?_
                rotate_left
                · (intro w' hSw; (try dsimp only at hSw); go_simp; try with_reducible rfl)
                try simp only [Act.put, List.setIfInBounds_toArray, List.set_cons_zero, List.set_cons_succ]
                refine wpAnyM_take (i := 6) (v := ?_) (by simp only [List.getElem?_toArray, List.getElem?_cons_succ, List.getElem?_cons_zero]; rfl) (by kernel_rfl) (by kernel_rfl) (by kernel_rfl) (by kernel_rfl) (by exact fun _ _ _ h => h) (Or.inl ⟨by rfl, ?_⟩) (And.intro H10.out.1.cN (run_cell H10.out.1.o6 (by have := HK.out; omega))) ?_
                rotate_left
                · (intro w' hSw; (try dsimp only at hSw); go_simp; try with_reducible rfl)
                try simp only [Act.put, List.setIfInBounds_toArray, List.set_cons_zero, List.set_cons_succ]
                refine wpAnyM_take (i := 7) (v := ?_) (by simp only [List.getElem?_toArray, List.getElem?_cons_succ, List.getElem?_cons_zero]; rfl) (by kernel_rfl) (by kernel_rfl) (by kernel_rfl) (by kernel_rfl) (by exact fun _ _ _ h => h) (Or.inl ⟨by rfl, ?_⟩) (And.intro H10.out.1.cN (run_cell H10.out.1.o6 (by have := HK.out; omega))) ?_
                rotate_left
                · (intro w' hSw; (try dsimp only at hSw); go_simp; try with_reducible rfl)
                try simp only [Act.put, List.setIfInBounds_toArray, List.set_cons_zero, List.set_cons_succ]
                refine wpAnyM_take (i := 8) (v := ?_) (by simp only [List.getElem?_toArray, List.getElem?_cons_succ, List.getElem?_cons_zero]; rfl) (by kernel_rfl) (by kernel_rfl) (by kernel_rfl) (by kernel_rfl) (by exact fun _ _ _ h => h) (Or.inl ⟨by rfl, ?_⟩) (And.intro H10.out.1.cN (run_cell H10.out.1.o6 (by have := HK.out; omega))) ?_
                rotate_left
                · (intro w' hSw; (try dsimp only at hSw); go_simp; try with_reducible rfl)
                try simp only [Act.put, List.setIfInBounds_toArray, List.set_cons_zero, List.set_cons_succ]
                refine wpAnyM_take (i := 9) (v := ?_) (by simp only [List.getElem?_toArray, List.getElem?_cons_succ, List.getElem?_cons_zero]; rfl) (by kernel_rfl) (by kernel_rfl) (by kernel_rfl) (by kernel_rfl) (by exact fun _ _ _ h => h) (Or.inl ⟨by rfl, ?_⟩) (And.intro H10.out.1.cN (run_cell H10.out.1.o6 (by have := HK.out; omega))) ?_
                rotate_left
                · (intro w' hSw; (try dsimp only at hSw); go_simp; try with_reducible rfl)
                try simp only [Act.put, List.setIfInBounds_toArray, List.set_cons_zero, List.set_cons_succ]
                refine wpAnyM_take (i := 10) (v := ?_) (by simp only [List.getElem?_toArray, List.getElem?_cons_succ, List.getElem?_cons_zero]; rfl) (by kernel_rfl) (by kernel_rfl) (by kernel_rfl) (by kernel_rfl) (by exact fun _ _ _ h => h) (Or.inl ⟨by rfl, ?_⟩) (And.intro H10.out.1.cN (run_cell H10.out.1.o6 (by have := HK.out; omega))) ?_
                rotate_left
                · (intro w' hSw; (try dsimp only at hSw); go_simp; try with_reducible rfl)
                try simp only [Act.put, List.setIfInBounds_toArray, List.set_cons_zero, List.set_cons_succ]
                refine wpAnyM_one (i := 1) (by kernel_rfl) (by simp only [List.getElem?_toArray, List.getElem?_cons_succ, List.getElem?_cons_zero]; rfl) ?_
                go_wp2_with (go_at_call 17; refine (reader_any (some ⟨G, 0, none⟩) 7680 7680 T x0).mono ?_; rintro e x1 ⟨rfl, hx1⟩; (have HX1 := Aside0.mk hx1); clear hx1)
                have hB11 : Below x0.heap.size x0 x1 := by rw [HX1.out]; exact (((Below.refl _ x0).alloc (Nat.le_refl _) _).alloc (by simp) _)
                have hp1 : x1.heap[x0.heap.size + 1]? = some (.cells #[.pointer (some ⟨T, 0, none⟩)] 35) := by
                  have h9 := heap_alloc_new (x0.alloc (.cells #[.slice (some ⟨G, 0, none⟩) 7680 7680] 27)) (.cells #[.pointer (some ⟨T, 0, none⟩)] 35)
                  rw [show (x0.alloc (.cells #[.slice (some ⟨G, 0, none⟩) 7680 7680] 27)).heap.size = x0.heap.size + 1 by simp] at h9
                  rw [HX1.out]
                  exact h9
                have hp2 : x1.heap[x0.heap.size]? = some (.cells #[.slice (some ⟨G, 0, none⟩) 7680 7680] 27) := by
                  rw [HX1.out]
                  exact (Below.heap_alloc (x0.alloc (.cells #[.slice (some ⟨G, 0, none⟩) 7680 7680] 27)) (.cells #[.pointer (some ⟨T, 0, none⟩)] 35) x0.heap.size (by simp)).trans (heap_alloc_new x0 (.cells #[.slice (some ⟨G, 0, none⟩) 7680 7680] 27))
                have hTx : T < x0.heap.size := (Array.getElem?_eq_some_iff.1 H10.out.2.2).1
                have hT11 : TBox T k' x1 := (hB11.block T hTx).trans H10.out.2.2
                have H11 := Aside0.mk (And.intro (H10.out.1.below hB11) (And.intro (H10.out.2.1.trans (OnlyB.of_below hB11)) hT11))
                have hGT : G ≠ T := by have := HL.out; have := H7.out; have := (Array.getElem?_eq_some_iff.1 H6.out.rm).1; omega
                have hrd := im_rdr (x0.heap.size + 1) x0.heap.size T (some ⟨G, 0, none⟩) 7680 7680 im2 x1 (by have := hB11.size; omega) hp1 hp2 H11.out.1.img.bs (by omega) (by omega) (by omega) (fun ad e _ => by injection e with e; rw [← e]; exact hGT)
                have hcall := odecode_any hrd k' (a1 : Int) (m : Int) x1 (OnlyB.refl _ _) hT11 ⟨by omega, by have := HA1.out; omega⟩ ⟨by omega, by have := HY.out.1.lim; omega⟩
                have hod := st_od HST.out.2
                rw [HY.out.2] at hod
                unfold DecPost at hcall
                rw [hod.2.2.1, hod.2.2.2.1, hod.2.2.2.2, hod.2.1, HY.out.2, runI_len] at hcall
                clear hod hrd hp1 hp2 hT11 hB11 hGT
                refine ⟨And.intro H11.out.1.cN (run_cell H11.out.1.o6 (by have := HK.out; omega)), ?_⟩
                try simp only [Act.put, List.setIfInBounds_toArray, List.set_cons_zero, List.set_cons_succ]
                refine wpAnyM_one (i := 11) (by kernel_rfl) (by simp only [List.getElem?_toArray, List.getElem?_cons_succ, List.getElem?_cons_zero]; rfl) ?_
                go_wp2_with (go_at_call 16; refine hcall.mono ?_; rintro e x2 ⟨A8, c8, A9, c9, k2, rfl, hO, hI2, hx2, hk2, ho⟩; (have H12 := Aside0.mk (And.intro (HAT.out x2 (H11.out.2.1.trans ho)) (And.intro (H11.out.2.1.trans ho) (And.intro hx2 hO.bs)))); clear hO hI2 hx2 hk2 ho)
                clear hcall
                refine ⟨And.intro H12.out.1.cN (run_cell H12.out.1.o6 (by have := HK.out; omega)), ?_⟩
                try simp only [Act.put, List.setIfInBounds_toArray, List.set_cons_zero, List.set_cons_succ]
                refine wpAnyM_take (i := 12) (v := ?_) (by simp only [List.getElem?_toArray, List.getElem?_cons_succ, List.getElem?_cons_zero]; rfl) (by kernel_rfl) (by kernel_rfl) (by kernel_rfl) (by kernel_rfl) (by exact fun _ _ _ h => h) (Or.inl ⟨by rfl, ?_⟩) (And.intro H12.out.1.cN (run_cell H12.out.1.o6 (by have := HK.out; omega))) ?_
                rotate_left
                · (intro w' hSw; (try dsimp only at hSw); go_simp; try with_reducible rfl)
                try simp only [Act.put, List.setIfInBounds_toArray, List.set_cons_zero, List.set_cons_succ]
                refine wpAnyM_take (i := 13) (v := ?_) (by simp only [List.getElem?_toArray, List.getElem?_cons_succ, List.getElem?_cons_zero]; rfl) (by kernel_rfl) (by kernel_rfl) (by kernel_rfl) (by kernel_rfl) (by exact fun _ _ _ h => h) (Or.inl ⟨by rfl, ?_⟩) (And.intro H12.out.1.cN (run_cell H12.out.1.o6 (by have := HK.out; omega))) ?_
                rotate_left
                · (intro w' hSw; (try dsimp only at hSw); go_simp; try with_reducible rfl)
                try simp only [Act.put, List.setIfInBounds_toArray, List.set_cons_zero, List.set_cons_succ]
                refine wpAnyM_take (i := 14) (v := ?_) (by simp only [List.getElem?_toArray, List.getElem?_cons_succ, List.getElem?_cons_zero]; rfl) (by kernel_rfl) (by kernel_rfl) (by kernel_rfl) (by kernel_rfl) (by exact fun _ _ _ h => h) (Or.inl ⟨by rfl, ?_⟩) (And.intro H12.out.1.cN (run_cell H12.out.1.o6 (by have := HK.out; omega))) ?_
                rotate_left
                · (intro w' hSw; (try dsimp only at hSw); go_simp; try with_reducible rfl)
                try simp only [Act.put, List.setIfInBounds_toArray, List.set_cons_zero, List.set_cons_succ]
                refine wpAnyM_take (i := 15) (v := ?_) (by simp only [List.getElem?_toArray, List.getElem?_cons_succ, List.getElem?_cons_zero]; rfl) (by kernel_rfl) (by kernel_rfl) (by kernel_rfl) (by kernel_rfl) (by exact fun _ _ _ h => h) (Or.inl ⟨by rfl, ?_⟩) (And.intro H12.out.1.cN (run_cell H12.out.1.o6 (by have := HK.out; omega))) ?_
                rotate_left
                · (intro w' hSw; (try dsimp only at hSw); go_simp; try with_reducible rfl)
                try simp only [Act.put, List.setIfInBounds_toArray, List.set_cons_zero, List.set_cons_succ]
                refine wpAnyM_take (i := 16) (v := ?_) (by simp only [List.getElem?_toArray, List.getElem?_cons_succ, List.getElem?_cons_zero]; rfl) (by kernel_rfl) (by kernel_rfl) (by kernel_rfl) (by kernel_rfl) (by exact fun _ _ _ h => h) (Or.inl ⟨by rfl, ?_⟩) (And.intro H12.out.1.cN (run_cell H12.out.1.o6 (by have := HK.out; omega))) ?_
                rotate_left
                · (intro w' hSw; (try dsimp only at hSw); go_simp; try with_reducible rfl)
                try simp only [Act.put, List.setIfInBounds_toArray, List.set_cons_zero, List.set_cons_succ]
                refine wpAnyM_take (i := 17) (v := ?_) (by simp only [List.getElem?_toArray, List.getElem?_cons_succ, List.getElem?_cons_zero]; rfl) (by kernel_rfl) (by kernel_rfl) (by kernel_rfl) (by kernel_rfl) (by exact fun _ _ _ h => h) (Or.inl ⟨by rfl, ?_⟩) (And.intro H12.out.1.cN (run_cell H12.out.1.o6 (by have := HK.out; omega))) ?_
                rotate_left
                · (intro w' hSw; (try dsimp only at hSw); go_simp; try with_reducible rfl)
                try simp only [Act.put, List.setIfInBounds_toArray, List.set_cons_zero, List.set_cons_succ]
                refine wpAnyM_take (i := 18) (v := ?_) (by simp only [List.getElem?_toArray, List.getElem?_cons_succ, List.getElem?_cons_zero]; rfl) (by kernel_rfl) (by kernel_rfl) (by kernel_rfl) (by kernel_rfl) (by exact fun _ _ _ h => h) (Or.inl ⟨by rfl, ?_⟩) (And.intro H12.out.1.cN (run_cell H12.out.1.o6 (by have := HK.out; omega))) ?_
                rotate_left
                · (intro w' hSw; (try dsimp only at hSw); go_simp; try with_reducible rfl)
                try simp only [Act.put, List.setIfInBounds_toArray, List.set_cons_zero, List.set_cons_succ]
                refine wpAnyM_take (i := 19) (v := ?_) (by simp only [List.getElem?_toArray, List.getElem?_cons_succ, List.getElem?_cons_zero]; rfl) (by kernel_rfl) (by kernel_rfl) (by kernel_rfl) (by kernel_rfl) (by exact fun _ _ _ h => h) (Or.inl ⟨by rfl, ?_⟩) (And.intro H12.out.1.cN (run_cell H12.out.1.o6 (by have := HK.out; omega))) ?_
                rotate_left
                · (intro w' hSw; (try dsimp only at hSw); go_simp; try with_reducible rfl)
                try simp only [Act.put, List.setIfInBounds_toArray, List.set_cons_zero, List.set_cons_succ]
                refine wpAnyM_take (i := 20) (v := ?_) (by simp only [List.getElem?_toArray, List.getElem?_cons_succ, List.getElem?_cons_zero]; rfl) (by kernel_rfl) (by kernel_rfl) (by kernel_rfl) (by kernel_rfl) (by exact fun _ _ _ h => h) (Or.inl ⟨by rfl, ?_⟩) (And.intro H12.out.1.cN (run_cell H12.out.1.o6 (by have := HK.out; omega))) ?_
                rotate_left
                · (intro w' hSw; (try dsimp only at hSw); go_simp; try with_reducible rfl)
                try simp only [Act.put, List.setIfInBounds_toArray, List.set_cons_zero, List.set_cons_succ]
                refine wpAnyM_done (by kernel_rfl) ?_ _
                obtain ⟨y0, y1, y2, y3⟩ := H12.out.1.cN
                have hvq : (ys == ys) = true := beq_self_eq_true _
                have dg : (h != h) = false := bne_self_eq_false _
                have dk : ((k1 : Int) != (k1 : Int)) = false := bne_self_eq_false _
                go_wp2_with (go_at_call 20; refine (equal8_any A8 m c8 ys B m d ys x2 H12.out.2.2.2 H12.out.1.hy).mono ?_; rintro e x3 ⟨rfl, rfl⟩; rw [hvq])
                go_roundg 0
                case measure => have := hk.out; omega
                case rel => exact ⟨2, k2, by rfl, by rfl, ⟨H12.out.2.1, H12.out.2.2.1⟩⟩
              · have hv2 : _ = Value.int .i64 2 := hv
                subst hv2
                go_wp2_with fail
                go_meet
                exact ⟨hI.out.1⟩
          case rest =>
            have H8 := Aside0.mk (HAT.out _ hcut.out).bel
            clear hcut
            go_wp2_with (go_at_call 12; refine (alive08_any _).mono ?_; rintro e w9 ⟨rfl, hB⟩; (have H9 := Aside0.mk (below_then H8.out H8.out.size hB)); clear hB)
            go_ret
            exact ⟨rfl, H9.out⟩
end Go.Proofs.Ytbjfklgmbeaaoaa
