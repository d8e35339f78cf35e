/- The walk of the law CrcLinear. -/
import Derived.Test.YtaoaenjhclicfaaA8
import Derived.Test.YtaoaenjhclicfaaP1
import Derived.Test.YtaoaenjhclicfaaB0
import Derived.Test.YtaoaenjhclicfaaQ0
import Derived.RegionTactic
import Derived.BigRegion
set_option linter.unusedVariables false
set_option linter.unusedSimpArgs false
namespace Go.Proofs.Ytaoaenjhclicfaa
open Go.RowKit

/-! The plain law -/
theorem dir_xor (l m : List Bool) (h : l.length = m.length) (c d : Nat) : dir (c ^^^ d) (List.zipWith xor l m) = dir c l ^^^ dir d m := by
  induction l generalizing m c d with
  | nil =>
    obtain rfl : m = [] := List.eq_nil_of_length_eq_zero h.symm
    rfl
  | cons x l ih =>
    cases m with
    | nil => simp at h
    | cons y m =>
      simp only [List.zipWith_cons_cons, dir]
      have e : c ^^^ d ^^^ (x ^^ y).toNat = (c ^^^ x.toNat) ^^^ (d ^^^ y.toNat) := by
        have : (x ^^ y).toNat = x.toNat ^^^ y.toNat := by cases x <;> cases y <;> rfl
        rw [this, Nat.xor_assoc, Nat.xor_assoc, ← Nat.xor_assoc d, Nat.xor_comm d x.toNat, Nat.xor_assoc]
      rw [e, st_xor]
      exact ih m (by simpa using h) _ _
theorem bit8_tb (x : Nat) : bit8 (x : Int) = [x.testBit 0, x.testBit 1, x.testBit 2, x.testBit 3, x.testBit 4, x.testBit 5, x.testBit 6, x.testBit 7] := by
  have h : ∀ k : Nat, x.testBit k = (x / 2 ^ k % 2 == 1) := by
    intro k
    rw [Nat.testBit_eq_decide_div_mod_eq]
    rfl
  have e0 : ((x : Int) % 2 == 1) = (x / 2 ^ 0 % 2 == 1) := by rw [Bool.eq_iff_iff]; simp only [beq_iff_eq]; omega
  have e1 : ((x : Int) / 2 % 2 == 1) = (x / 2 ^ 1 % 2 == 1) := by rw [Bool.eq_iff_iff]; simp only [beq_iff_eq]; omega
  have e2 : ((x : Int) / 4 % 2 == 1) = (x / 2 ^ 2 % 2 == 1) := by rw [Bool.eq_iff_iff]; simp only [beq_iff_eq]; omega
  have e3 : ((x : Int) / 8 % 2 == 1) = (x / 2 ^ 3 % 2 == 1) := by rw [Bool.eq_iff_iff]; simp only [beq_iff_eq]; omega
  have e4 : ((x : Int) / 16 % 2 == 1) = (x / 2 ^ 4 % 2 == 1) := by rw [Bool.eq_iff_iff]; simp only [beq_iff_eq]; omega
  have e5 : ((x : Int) / 32 % 2 == 1) = (x / 2 ^ 5 % 2 == 1) := by rw [Bool.eq_iff_iff]; simp only [beq_iff_eq]; omega
  have e6 : ((x : Int) / 64 % 2 == 1) = (x / 2 ^ 6 % 2 == 1) := by rw [Bool.eq_iff_iff]; simp only [beq_iff_eq]; omega
  have e7 : ((x : Int) / 128 % 2 == 1) = (x / 2 ^ 7 % 2 == 1) := by rw [Bool.eq_iff_iff]; simp only [beq_iff_eq]; omega
  unfold bit8
  rw [e0, e1, e2, e3, e4, e5, e6, e7, h 0, h 1, h 2, h 3, h 4, h 5, h 6, h 7]
theorem bitsL_xor (xs ys : List UInt8) (h : xs.length = ys.length) : bitsL (List.zipWith (· ^^^ ·) xs ys) = List.zipWith xor (bitsL xs) (bitsL ys) := by
  induction xs generalizing ys with
  | nil =>
    obtain rfl : ys = [] := List.eq_nil_of_length_eq_zero h.symm
    rfl
  | cons x xs ih =>
    cases ys with
    | nil => simp at h
    | cons y ys =>
      have e : ∀ z zs, bitsL (z :: zs) = bit8 (z.toNat : Int) ++ bitsL zs := fun _ _ => rfl
      rw [List.zipWith_cons_cons, e, e, e, ih ys (by simpa using h), bit8_tb, bit8_tb, bit8_tb, UInt8.toNat_xor]
      simp only [Nat.testBit_xor, List.cons_append, List.nil_append, List.zipWith_cons_cons]
theorem updI_linear (xs ys : List UInt8) (h : xs.length = ys.length) :
    bits .xor .u32 (bits .xor .u32 (bits .xor .u32 (updI 0 xs) (updI 0 ys)) (updI 0 (List.zipWith (· ^^^ ·) xs ys))) (updI 0 (List.replicate xs.length 0)) = 0 := by
  have hd : ∀ l, dir 4294967295 l < 4294967296 := fun l => dir_lt _ _ (by omega)
  have h0 : ∀ zs, updI 0 zs = ((4294967295 ^^^ dir 4294967295 (bitsL zs) : Nat) : Int) := fun zs => updI_dir 0 zs (by omega)
  have hb : ∀ l, 4294967295 ^^^ dir 4294967295 l < 4294967296 := fun l => Nat.xor_lt_two_pow (n := 32) (by omega) (hd l)
  rw [h0, h0, h0, h0, bxor _ _ (hb _) (hb _), bxor _ _ (Nat.xor_lt_two_pow (n := 32) (hb _) (hb _)) (hb _), bxor _ _ (Nat.xor_lt_two_pow (n := 32) (Nat.xor_lt_two_pow (n := 32) (hb _) (hb _)) (hb _)) (hb _)]
  have hl : (bitsL xs).length = (bitsL ys).length := by rw [bitsL_length, bitsL_length, h]
  rw [bitsL_xor xs ys h]
  have hz : bitsL (List.replicate xs.length 0) = List.zipWith xor (List.zipWith xor (bitsL xs) (bitsL ys)) (List.zipWith xor (bitsL xs) (bitsL ys)) := by
    have e1 : ∀ l : List Bool, List.zipWith xor l l = List.replicate l.length false := by
      intro l
      induction l with
      | nil => rfl
      | cons x l ih => rw [List.zipWith_cons_cons, ih, List.length_cons, List.replicate_succ]; cases x <;> rfl
    have e2 : ∀ n, bitsL (List.replicate n 0) = List.replicate (8 * n) false := by
      intro n
      induction n with
      | zero => rfl
      | succ n ih =>
        rw [List.replicate_succ, show bitsL (0 :: List.replicate n 0) = bit8 0 ++ bitsL (List.replicate n 0) from rfl, ih, show 8 * (n + 1) = 8 + 8 * n by omega, ← List.replicate_append_replicate]
        rfl
    rw [e1, e2, List.length_zipWith, ← hl, Nat.min_self, bitsL_length]
  have hx := dir_xor (bitsL xs) (bitsL ys) hl 0 4294967295
  have hA : dir (4294967295 ^^^ 4294967295) (List.zipWith xor (bitsL xs) (bitsL ys)) = dir 4294967295 (bitsL xs) ^^^ dir 4294967295 (bitsL ys) := dir_xor _ _ hl _ _
  have hB : dir (4294967295 ^^^ 4294967295) (bitsL (List.replicate xs.length 0)) = dir 4294967295 (List.zipWith xor (bitsL xs) (bitsL ys)) ^^^ dir 4294967295 (List.zipWith xor (bitsL xs) (bitsL ys)) := by
    rw [hz]; exact dir_xor _ _ rfl _ _
  have hC : dir (0 ^^^ 4294967295) (List.zipWith xor (List.zipWith xor (bitsL xs) (bitsL ys)) (List.zipWith xor (bitsL xs) (bitsL ys))) = dir 0 (List.zipWith xor (bitsL xs) (bitsL ys)) ^^^ dir 4294967295 (List.zipWith xor (bitsL xs) (bitsL ys)) := dir_xor _ _ rfl _ _
  rw [← hz, Nat.zero_xor] at hC
  rw [Nat.xor_self] at hA
  generalize dir 4294967295 (bitsL xs) = p at *
  generalize dir 4294967295 (bitsL ys) = q at *
  generalize dir 4294967295 (List.zipWith xor (bitsL xs) (bitsL ys)) = r at *
  generalize dir 4294967295 (bitsL (List.replicate xs.length 0)) = s at *
  generalize dir 0 (List.zipWith xor (bitsL xs) (bitsL ys)) = t at *
  subst hA
  subst hC
  have : 4294967295 ^^^ p ^^^ (4294967295 ^^^ q) ^^^ (4294967295 ^^^ r) ^^^ (4294967295 ^^^ (p ^^^ q ^^^ r)) = 0 := by
    apply Nat.eq_of_testBit_eq
    intro k
    simp only [Nat.testBit_xor, Nat.zero_testBit]
    cases Nat.testBit 4294967295 k <;> cases p.testBit k <;> cases q.testBit k <;> cases r.testBit k <;> rfl
  rw [this]
  rfl

theorem bxor8 (xs ys : List UInt8) (j : Nat) : bits .xor .u8 (b8 xs j) (b8 ys j) = (((xs.getD j 0) ^^^ (ys.getD j 0)).toNat : Int) := by
  unfold b8
  rw [u8_xor_nat _ _ (UInt8.toNat_lt _) (UInt8.toNat_lt _), UInt8.toNat_xor]
/-- The first k of both rows' xor, noughts behind. -/
def xorTo (xs ys : List UInt8) (m k : Nat) : List UInt8 := (List.range m).map fun i => if i < k then xs.getD i 0 ^^^ ys.getD i 0 else 0
theorem xorTo_zero (xs ys : List UInt8) (m : Nat) : xorTo xs ys m 0 = List.replicate m 0 := by
  apply List.ext_getElem
  · simp [xorTo]
  · intro i h1 h2
    simp [xorTo]
theorem xorTo_succ (xs ys : List UInt8) (m k : Nat) (hk : k < m) : xorTo xs ys m (k + 1) = (xorTo xs ys m k).set k (xs.getD k 0 ^^^ ys.getD k 0) := by
  apply List.ext_getElem
  · simp [xorTo]
  · intro i h1 h2
    simp only [xorTo, List.getElem_map, List.getElem_range, List.getElem_set]
    by_cases h : k = i
    · subst h; simp
    · by_cases h' : i < k
      · simp [h, h', show i < k + 1 by omega]
      · simp [h, h', show ¬ i < k + 1 by omega]
theorem xorTo_full (xs ys : List UInt8) (m : Nat) (hx : m ≤ xs.length) (hy : m ≤ ys.length) : xorTo xs ys m m = List.zipWith (· ^^^ ·) (xs.take m) (ys.take m) := by
  apply List.ext_getElem
  · simp [xorTo]; omega
  · intro i h1 h2
    have hi : i < m := by simpa [xorTo] using h1
    simp only [xorTo, List.getElem_map, List.getElem_range, if_pos hi, List.getElem_zipWith, List.getElem_take]
    simp [List.getD_eq_getElem?_getD, List.getElem?_eq_getElem (show i < xs.length by omega), List.getElem?_eq_getElem (show i < ys.length by omega)]

theorem Ow.drew {w : World} {base n c : Nat} {A : Option Addr} {xs : List UInt8} (h : Ow w base A n c xs) : Ow w.drew base A n c xs := h.kept fun _ _ _ => rfl
theorem Ow.apart {w : World} {base g n c : Nat} {A : Option Addr} {xs : List UInt8} (h : Ow w base A n c xs) (hne : A ≠ some ⟨g, 0, none⟩) (j : Nat) (v : Value) : Ow (w.setCell ⟨g, j, none⟩ v) base A n c xs :=
  h.kept fun g' e _ => Below.heap_setCell _ _ _ _ (by rintro rfl; exact hne e)
theorem Bs.apart {w : World} {g n c : Nat} {A : Option Addr} {xs : List UInt8} (h : Bs w A n c xs) (B : Nat) (hlt : ∀ ad, A = some ad → 0 < n → ad.block < B) (hg : B ≤ g) (j : Nat) (v : Value) : Bs (w.setCell ⟨g, j, none⟩ v) A n c xs :=
  ⟨h.len, h.le, h.cap, h.lim, fun hn => by
    obtain ⟨ad, e, hc⟩ := h.cells hn
    refine ⟨ad, e, fun i hi => ?_⟩
    rw [← hc i hi]
    have := hlt ad e hn
    have hb : (ad.add i).block = ad.block := by unfold Addr.add; split <;> rfl
    exact World.cell?_of_block (Below.heap_setCell _ _ _ _ (by rw [hb]; show ad.block ≠ g; omega))⟩
theorem Bs.old {w : World} {n c : Nat} {A : Option Addr} {xs : List UInt8} (h : Bs w A n c xs) : ∀ ad, A = some ad → 0 < n → ad.block < w.heap.size := by
  intro ad e hn
  obtain ⟨ad', e', hc⟩ := h.cells hn
  rw [e] at e'
  injection e' with e'
  subst e'
  have := World.block_lt_of_cell? w _ (hc 0 hn)
  have hb : (ad.add 0).block = ad.block := by unfold Addr.add; split <;> rfl
  omega
theorem min3_run (n n' m : Nat) (hm : m = min (min n n') 600) : ∀ W : World, (Builtin.min_ #[3, 3, 3] 3 #[.int .i64 (n : Int), .int .i64 (n' : Int), .int .i64 600]).run Try.prog W = .ok (.int .i64 (m : Int)) W := by
  intro W
  rw [run_min_int3]
  congr 2
  subst hm
  split <;> split <;> omega

set_option maxHeartbeats 4000000 in
set_option maxRecDepth 100000 in
theorem crcLinear_walk (A : Option Addr) (n c : Nat) (xs : List UInt8) (A' : Option Addr) (n' c' : Nat) (ys : List UInt8) (w : World) (hb : Bs w A n c xs) (hb' : Bs w A' n' c' ys) :
    Calls Try.prog 6 #[.slice A n c, .slice A' n' c'] w fun e w' => e = .returned (.bool true) ∧ Below w.heap.size w w' := by
  have hlim := hb.lim
  have hlim' := hb'.lim
  obtain ⟨m, hm⟩ : ∃ m, m = min (min n n') 600 := ⟨_, rfl⟩
  have hmin := min3_run n n' m hm
  have hm1 : m ≤ n := by omega
  have hm2 : m ≤ n' := by omega
  have hm3 : m ≤ 600 := by omega
  have hm' := Aside0.mk hm
  clear hm
  have hmk := mk8 m (by omega)
  go_enter Try.func6, Try.ntmps6
  go_wp2
  have H1 : Ow ((w.alloc (.cells (madeCells #[.int .u8 0] m) 5)).alloc (.cells (madeCells #[.int .u8 0] m) 5)).drew w.heap.size (some ⟨w.heap.size, 0, none⟩) m m (List.replicate m 0) := ((Ow.made w w.heap.size w.heap.size rfl (Nat.le_refl _) m (by omega)).alloc _).drew
  have H2 : Ow ((w.alloc (.cells (madeCells #[.int .u8 0] m) 5)).alloc (.cells (madeCells #[.int .u8 0] m) 5)).drew w.heap.size (some ⟨w.heap.size + 1, 0, none⟩) m m (List.replicate m 0) := (Ow.made (w.alloc (.cells (madeCells #[.int .u8 0] m) 5)) w.heap.size (w.heap.size + 1) (by simp) (by simp) m (by omega)).drew
  have H3 : Below w.heap.size w ((w.alloc (.cells (madeCells #[.int .u8 0] m) 5)).alloc (.cells (madeCells #[.int .u8 0] m) 5)).drew := below_drew (((Below.refl _ _).alloc (Nat.le_refl _) _).alloc (by simp) _)
  have H12 := Aside0.mk (And.intro H1 (And.intro H2 H3))
  have hxb := Aside0.mk (And.intro hb hb')
  clear H1 H2 H3 hb hb'
  go_region
  · have HX := Aside0.mk H12.out.1
    have HY := Aside0.mk H12.out.2.1
    have HW := Aside0.mk H12.out.2.2
    clear H12
    generalize ((w.alloc (.cells (madeCells #[.int .u8 0] m) 5)).alloc (.cells (madeCells #[.int .u8 0] m) 5)).drew = W1 at HX HY HW ⊢
    go_wp2
    go_loopg [19] m (fun k i wr => ∃ j : Nat, Aside (k + j = m) ∧ i = .int .i64 (j : Int) ∧ Aside0 (Bs wr A n c xs ∧ Bs wr A' n' c' ys) ∧ Aside0 (Ow wr w.heap.size (some ⟨w.heap.size, 0, none⟩) m m (xorTo xs ys m j)) ∧ Aside0 (Ow wr w.heap.size (some ⟨w.heap.size + 1, 0, none⟩) m m (List.replicate m 0)) ∧ Aside0 (Below w.heap.size w wr))
    case atStart => exact ⟨0, rfl, rfl, ⟨hxb.out.1.below HW.out, hxb.out.2.below HW.out⟩, ⟨by rw [xorTo_zero]; exact HX.out⟩, HY, HW⟩
    case round =>
      obtain ⟨j, hk, rfl, hab, hx, hy, hB⟩ := hrel
      have hjb : j ≤ m := by have := hk.out; omega
      by_cases hlt : j < m
      · obtain ⟨ad, he, ca⟩ := hab.out.1.atN j (by omega)
        obtain ⟨ad', he', cb⟩ := hab.out.2.atN j (by omega)
        subst he
        subst he'
        obtain ⟨g, hg, hg1, hg2, hf⟩ := hx.out.head (by omega)
        obtain ⟨adx, hadx, cx⟩ := hx.out.bs.atN j hlt
        injection hg with hg
        injection hg with hg
        subst hg
        injection hadx with hadx
        subst hadx
        rw [add_plain] at cx
        have hfj := hf j
        clear hf
        have hjn : (j : Int) < (n : Int) := by omega
        have hjn' : (j : Int) < (n' : Int) := by omega
        have hjm : (j : Int) < (m : Int) := by omega
        go_wp2
        go_region
        go_wp2
        go_roundg (m - (j + 1))
        case measure => have := hk.out; omega
        case rel =>
          refine ⟨j + 1, by have := hk.out; exact (show m - (j + 1) + (j + 1) = m by omega), by go_num, ⟨?_, ?_⟩, ⟨?_⟩, ⟨?_⟩, ⟨?_⟩⟩
          · exact ((hxb.out.1.below hB.out).drew).apart w.heap.size hxb.out.1.old (by omega) _ _
          · exact ((hxb.out.2.below hB.out).drew).apart w.heap.size hxb.out.2.old (by omega) _ _
          · rw [bxor8, xorTo_succ _ _ _ _ hlt]
            exact hx.out.drew.store j _
          · exact hy.out.drew.apart (by simp) _ _
          · exact (below_drew hB.out).setCell (p := ⟨w.heap.size, j, none⟩) (by simp) _
      · obtain rfl : j = m := by omega
        go_wp2
        have HI := Aside0.mk (And.intro hab.out (And.intro hx.out.bs (And.intro hy.out.bs hB.out)))
        have hlin : bits .xor .u32 (bits .xor .u32 (bits .xor .u32 (updI 0 (xs.take j)) (updI 0 (ys.take j))) (updI 0 (xorTo xs ys j j))) (updI 0 (List.replicate j 0)) = 0 := by
          have hl := updI_linear (xs.take j) (ys.take j) (by rw [List.length_take, List.length_take, hxb.out.1.len, hxb.out.2.len]; omega)
          rw [← xorTo_full xs ys j (by rw [hxb.out.1.len]; exact hm1) (by rw [hxb.out.2.len]; exact hm2), List.length_take, hxb.out.1.len, Nat.min_eq_left hm1] at hl
          exact hl
        have s1 := fun W => sl8_h W A n c .i64 (j : Int) (by omega) (by have := hxb.out.1.le; omega)
        have s2 := fun W => sl8_h W A' n' c' .i64 (j : Int) (by omega) (by have := hxb.out.2.le; omega)
        simp only [Int.toNat_natCast] at s1 s2
        clear hab hx hy hB hmin hmk hk HX HY HW
        refine wp_region_ext (by kernel_rfl) (by kernel_rfl) ?_
        repeat (go_big_quiet_step ((first | (go_at_call 15; exact Calls.ext_of (alive02_any _)) | (go_at_call 16; first | (with_reducible exact Calls.ext_of (of_any A j c _ _ ((HI.out.1.1.take j hm1).ext _))) | (with_reducible exact Calls.ext_of (of_any A' j c' _ _ ((HI.out.1.2.take j hm2).ext _))) | (with_reducible exact Calls.ext_of (of_any (some ⟨w.heap.size, 0, none⟩) j j _ _ (HI.out.2.1.ext _))) | (with_reducible exact Calls.ext_of (of_any (some ⟨w.heap.size + 1, 0, none⟩) j j _ _ (HI.out.2.2.1.ext _)))))))
        refine wpQuiet_nil ?_
        rintro w' ⟨kx, rfl⟩
        have hBk := below_then HI.out.2.2.2 HI.out.2.2.2.size kx.bel
        go_wp2
        go_ret
        exact ⟨ret_bool (by first | rfl | simp), hBk⟩
  · have HX := Aside0.mk H12.out.2.1
    have HY := Aside0.mk H12.out.1
    have HW := Aside0.mk H12.out.2.2
    clear H12
    generalize ((w.alloc (.cells (madeCells #[.int .u8 0] m) 5)).alloc (.cells (madeCells #[.int .u8 0] m) 5)).drew = W1 at HX HY HW ⊢
    go_wp2
    go_loopg [19] m (fun k i wr => ∃ j : Nat, Aside (k + j = m) ∧ i = .int .i64 (j : Int) ∧ Aside0 (Bs wr A n c xs ∧ Bs wr A' n' c' ys) ∧ Aside0 (Ow wr w.heap.size (some ⟨w.heap.size + 1, 0, none⟩) m m (xorTo xs ys m j)) ∧ Aside0 (Ow wr w.heap.size (some ⟨w.heap.size, 0, none⟩) m m (List.replicate m 0)) ∧ Aside0 (Below w.heap.size w wr))
    case atStart => exact ⟨0, rfl, rfl, ⟨hxb.out.1.below HW.out, hxb.out.2.below HW.out⟩, ⟨by rw [xorTo_zero]; exact HX.out⟩, HY, HW⟩
    case round =>
      obtain ⟨j, hk, rfl, hab, hx, hy, hB⟩ := hrel
      have hjb : j ≤ m := by have := hk.out; omega
      by_cases hlt : j < m
      · obtain ⟨ad, he, ca⟩ := hab.out.1.atN j (by omega)
        obtain ⟨ad', he', cb⟩ := hab.out.2.atN j (by omega)
        subst he
        subst he'
        obtain ⟨g, hg, hg1, hg2, hf⟩ := hx.out.head (by omega)
        obtain ⟨adx, hadx, cx⟩ := hx.out.bs.atN j hlt
        injection hg with hg
        injection hg with hg
        subst hg
        injection hadx with hadx
        subst hadx
        rw [add_plain] at cx
        have hfj := hf j
        clear hf
        have hjn : (j : Int) < (n : Int) := by omega
        have hjn' : (j : Int) < (n' : Int) := by omega
        have hjm : (j : Int) < (m : Int) := by omega
        go_wp2
        go_region
        go_wp2
        go_roundg (m - (j + 1))
        case measure => have := hk.out; omega
        case rel =>
          refine ⟨j + 1, by have := hk.out; exact (show m - (j + 1) + (j + 1) = m by omega), by go_num, ⟨?_, ?_⟩, ⟨?_⟩, ⟨?_⟩, ⟨?_⟩⟩
          · exact ((hxb.out.1.below hB.out).drew).apart w.heap.size hxb.out.1.old (by omega) _ _
          · exact ((hxb.out.2.below hB.out).drew).apart w.heap.size hxb.out.2.old (by omega) _ _
          · rw [bxor8, xorTo_succ _ _ _ _ hlt]
            exact hx.out.drew.store j _
          · exact hy.out.drew.apart (by simp) _ _
          · exact (below_drew hB.out).setCell (p := ⟨w.heap.size + 1, j, none⟩) (by simp) _
      · obtain rfl : j = m := by omega
        go_wp2
        have HI := Aside0.mk (And.intro hab.out (And.intro hx.out.bs (And.intro hy.out.bs hB.out)))
        have hlin : bits .xor .u32 (bits .xor .u32 (bits .xor .u32 (updI 0 (xs.take j)) (updI 0 (ys.take j))) (updI 0 (xorTo xs ys j j))) (updI 0 (List.replicate j 0)) = 0 := by
          have hl := updI_linear (xs.take j) (ys.take j) (by rw [List.length_take, List.length_take, hxb.out.1.len, hxb.out.2.len]; omega)
          rw [← xorTo_full xs ys j (by rw [hxb.out.1.len]; exact hm1) (by rw [hxb.out.2.len]; exact hm2), List.length_take, hxb.out.1.len, Nat.min_eq_left hm1] at hl
          exact hl
        have s1 := fun W => sl8_h W A n c .i64 (j : Int) (by omega) (by have := hxb.out.1.le; omega)
        have s2 := fun W => sl8_h W A' n' c' .i64 (j : Int) (by omega) (by have := hxb.out.2.le; omega)
        simp only [Int.toNat_natCast] at s1 s2
        clear hab hx hy hB hmin hmk hk HX HY HW
        refine wp_region_ext (by kernel_rfl) (by kernel_rfl) ?_
        repeat (go_big_quiet_step ((first | (go_at_call 15; exact Calls.ext_of (alive02_any _)) | (go_at_call 16; first | (with_reducible exact Calls.ext_of (of_any A j c _ _ ((HI.out.1.1.take j hm1).ext _))) | (with_reducible exact Calls.ext_of (of_any A' j c' _ _ ((HI.out.1.2.take j hm2).ext _))) | (with_reducible exact Calls.ext_of (of_any (some ⟨w.heap.size + 1, 0, none⟩) j j _ _ (HI.out.2.1.ext _))) | (with_reducible exact Calls.ext_of (of_any (some ⟨w.heap.size, 0, none⟩) j j _ _ (HI.out.2.2.1.ext _)))))))
        refine wpQuiet_nil ?_
        rintro w' ⟨kx, rfl⟩
        have hBk := below_then HI.out.2.2.2 HI.out.2.2.2.size kx.bel
        go_wp2
        go_ret
        exact ⟨ret_bool (by first | rfl | simp), hBk⟩
end Go.Proofs.Ytaoaenjhclicfaa
