/- The walk of a reader's Get. -/
import Derived.Test.YtenibcbodjkglaaG1
import Derived.Test.YtenibcbodjkglaaF5
import Derived.Laws.Bits64b
set_option linter.unusedVariables false
set_option linter.unusedSimpArgs false
namespace Go.Proofs.Ytenibcbodjkglaa
open Go.RowKit Go.Shelf
attribute [local go_sem] Oper.semAt_some

theorem OnlyB.put {g D : Nat} {w W : World} {o : Obj} (h : OnlyB g w W) (hD : w.heap.size ≤ D) (hK : W.heap[D]? = some o) (h1 : o.isCells = false) (h2 : o.isWalk = false) (o' : Obj) : OnlyB g w (W.putObj D o') := by
  have hb := belowK_b (w := w) (Nat.le_refl _) W D o o' hD hK h1 h2
  exact ⟨hb.os.trans h.os, hb.tape.trans h.tape, hb.output.trans h.output, Nat.le_trans h.size hb.size, fun i hi hn => (hb.block i hi).trans (h.block i hi hn)⟩
theorem Cur.put {W : World} {g D : Nat} {T : TypeId} {A : Option Addr} {n c a : Nat} {sp : Bool} {o : Obj} (h : Cur W g T A n c a sp) {w : World} (hg : g < w.heap.size) (hD : w.heap.size ≤ D) (hK : W.heap[D]? = some o) (h1 : o.isCells = false) (h2 : o.isWalk = false) (o' : Obj) : Cur (W.putObj D o') g T A n c a sp :=
  ⟨((belowK_b (w := w) (Nat.le_refl _) W D o o' hD hK h1 h2).block g hg).trans h.row, h.le, h.lim, h.nc⟩
theorem Cur.to {W : World} {g : Nat} {T : TypeId} {A : Option Addr} {n c a a' : Nat} {sp : Bool} (h : Cur W g T A n c a sp) (ha : a' ≤ n) : Cur (W.setCell ⟨g, 1, none⟩ (.int .i64 (a' : Int))) g T A n c a' sp :=
  ⟨by rw [heap_setCell_same W g 1 _ _ _ h.row]; rfl, ha, h.lim, h.nc⟩
theorem Cur.sp {W : World} {g : Nat} {T : TypeId} {A : Option Addr} {n c a : Nat} {sp : Bool} (h : Cur W g T A n c a sp) : Cur (W.setCell ⟨g, 2, none⟩ (.bool true)) g T A n c a true :=
  ⟨by rw [heap_setCell_same W g 2 _ _ _ h.row]; rfl, h.le, h.lim, h.nc⟩
/-- The number that bytes are, the last byte first. -/
def leN : List UInt8 → Nat
  | [] => 0
  | b :: t => b.toNat + 256 * leN t
def valB (pre : List (Nat × UInt8)) : Nat := pre.foldl (fun s p => s * 256 + p.2.toNat) 0
theorem valB_snoc (pre : List (Nat × UInt8)) (x : Nat × UInt8) : valB (pre ++ [x]) = valB pre * 256 + x.2.toNat := by simp [valB]
theorem valB_lt8 (pre : List (Nat × UInt8)) : valB pre < 256 ^ pre.length := by
  suffices h : ∀ (k : Nat) (pre : List (Nat × UInt8)), pre.length = k → valB pre < 256 ^ k from h _ pre rfl
  intro k
  induction k with
  | zero => intro pre h; obtain rfl := List.eq_nil_of_length_eq_zero h; simp [valB]
  | succ k ih =>
    intro pre h
    obtain ⟨ini, x, rfl⟩ : ∃ ini x, pre = ini ++ [x] := by
      have hne : pre ≠ [] := by intro e; subst e; cases h
      exact ⟨pre.dropLast, pre.getLast hne, (List.dropLast_concat_getLast hne).symm⟩
    have h1 := ih ini (by simpa using h)
    rw [valB_snoc, Nat.pow_succ]
    have := x.2.toNat_lt
    omega
theorem valB_upto (ys : List UInt8) (m : Nat) (h : ys.length = m) (k : Nat) (hk : k ≤ m) : valB (upto (fun j => (m - 1 - j, ys.getD (m - 1 - j) 0)) k) = leN (ys.drop (m - k)) := by
  induction k with
  | zero => rw [Nat.sub_zero, ← h, List.drop_length]; rfl
  | succ k ih =>
    have hd : ys.drop (m - (k + 1)) = ys.getD (m - 1 - k) 0 :: ys.drop (m - k) := by
      rw [List.drop_eq_getElem_cons (by omega), List.getD_eq_getElem?_getD, List.getElem?_eq_getElem (by omega), Option.getD_some]
      congr 1
      · congr 1; omega
      · congr 1; omega
    rw [upto_succ, valB_snoc, ih (by omega), hd, leN]
    dsimp only
    omega

theorem back_step (v b : Nat) (hv : v < 256 ^ 7) (hb : b < 256) : bits BinOp.or IntKind.u64 (IntKind.u64.wrap ((v : Int) * 256)) (IntKind.u64.wrap (b : Int)) = ((v * 256 + b : Nat) : Int) := by
  have e1 : IntKind.u64.wrap ((v : Int) * 256) = ((v * 256 : Nat) : Int) := by rw [IntKind.wrap_u64]; omega
  have e2 : IntKind.u64.wrap (b : Int) = (b : Int) := by rw [IntKind.wrap_u64]; omega
  rw [e1, e2, bits_or_u64_nat _ _ (by omega) (by omega)]
  have h := Nat.shiftLeft_add_eq_or_of_lt (b := b) (i := 8) (by omega) v
  rw [Nat.shiftLeft_eq, show (2 : Nat) ^ 8 = 256 from rfl] at h
  rw [h]

set_option maxRecDepth 100000 in
set_option maxHeartbeats 2000000 in
theorem get_ok (base g : Nat) (A : Option Addr) (n c a : Nat) (xs : List UInt8) (m : Nat) (w : World) (h : Cur w g 86 A n c a false) (hb : Bs w A n c xs) (hne : ∀ ad, A = some ad → 0 < n → ad.block ≠ g) (hm1 : 1 ≤ m) (hm8 : m ≤ 8) (hr : a + m ≤ n) :
    Calls Try.prog 55 #[.pointer (some ⟨g, 0, none⟩), .int .i64 (m : Int)] w fun e w' => OnlyB g w w' ∧
      ((leN ((xs.drop a).take m) ≤ 9223372036854775807 ∧ e = .returned (.int .i64 (leN ((xs.drop a).take m) : Int)) ∧ Cur w' g 86 A n c (a + m) false) ∨
       (9223372036854775807 < leN ((xs.drop a).take m) ∧ e = .returned (.int .i64 0) ∧ Cur w' g 86 A n c a true)) := by
  have f1 : decide ((m : Int) < 1) = false := decide_eq_false (by omega)
  have f2 : decide (8 < (m : Int)) = false := decide_eq_false (by omega)
  obtain ⟨V, hVV⟩ : ∃ V, leN ((xs.drop a).take m) = V := ⟨_, rfl⟩
  rw [hVV]
  have hlt := hb.lt
  have hgw : g < w.heap.size := (Array.getElem?_eq_some_iff.1 h.row).1
  have hb0 := (hb.drop a h.le).take m (by omega)
  have hV : ∀ ys, ys = upto (fun j => (m - 1 - j, ((xs.drop a).take m).getD (m - 1 - j) 0)) m → valB ys = V := by
    rintro ys rfl
    rw [valB_upto _ m hb0.len m (Nat.le_refl _), Nat.sub_self, List.drop_zero, hVV]
  refine (callsIn_wide (n := 6)).1 ?_
  have hF : ∀ k, Fence.wide.fn k := fun _ => trivial
  refine callsIn_of_wp_marks Try.func55 rfl (hF _) ?_ rfl
  simp only [Try.ntmps55, List.size_toArray, List.length_cons, List.length_nil, Nat.reduceAdd, Nat.reduceSub, Array.replicate_succ, Array.replicate_zero, List.push_toArray, List.append_toArray, List.nil_append, List.cons_append]
  have h' : Cur (w.alloc (.cells #[.int .u64 0] 92)) g 86 A n c a false := h.below ((Below.refl _ _).alloc (Nat.le_refl _) _)
  gi_wp2_with (first
    | (gi_at_call 44; refine (callsIn_wide.2 (next_any g _ A n c a false (m : Int) _ h')).mono ?_; rintro e w2 ⟨ho, hsz, ⟨q1, rfl, hc⟩ | ⟨q1, q2, q3, rfl, hc⟩⟩; (first | (exfalso; rcases q1 with q1 | q1 | q1 <;> (try cases q1) <;> omega) | skip))
    | (gi_at_call 61; refine (back_in Fence.wide 5 (hF _) rfl _ _ _ _).mono ?_; rintro e w3 ⟨rfl, rfl⟩))
  simp only [Int.toNat_natCast] at hc q3
  have hbx : w2.heap[w.heap.size]? = some (.cells #[.int .u64 0] 92) := (ho.block w.heap.size (by simp) (by omega)).trans (heap_alloc_new _ _)
  have hs2 : w2.heap.size = w.heap.size + 1 := by rw [hsz]; simp
  have hb2 : Bs w2 (cutA A c a) m (c - a) ((xs.drop a).take m) := (((hb.alloc _).only ho hne).drop a h.le).take m (by omega)
  have bS : Boxed w2 w.heap.size 92 (.int .u64 0) := hbx
  have bN := Boxed.new w2 22 (.slice (cutA A c a) m (c - a))
  rw [hs2] at bN
  have hb3 : Bb w.heap.size (w.heap.size + 2) (w2.alloc (.cells #[.slice (cutA A c a) m (c - a)] 22)) (cutA A c a) m (c - a) ((xs.drop a).take m) :=
    ⟨hb2.alloc _, fun ad e hn => by have := hb0.lt ad e hn; omega⟩
  have HO := Aside0.mk ho
  have HC := Aside0.mk hc
  clear ho hc
  obtain ⟨W3, hW3⟩ : ∃ W3, w2.alloc (.cells #[.slice (cutA A c a) m (c - a)] 22) = W3 := ⟨_, rfl⟩
  have hs3 : W3.heap.size = w.heap.size + 2 := by rw [← hW3]; simp [hs2]
  have hB3 : Below w2.heap.size w2 W3 := by rw [← hW3]; exact (Below.refl _ _).alloc (Nat.le_refl _) _
  have bS3 : Boxed W3 w.heap.size 92 (.int .u64 0) := by rw [← hW3]; exact bS.alloc _
  rw [hW3] at bN hb3
  rw [hW3]
  clear hW3
  refine wpIn_rangeFunc_ownG (F := Fence.wide) (n := 6) rfl (by decide) (gf := 63) (lb := #[.pointer (some ⟨w.heap.size + 1, 0, none⟩)]) rfl (hF _) (enters_of Try.func63 (by kernel_rfl) rfl)
    (back_stops Fence.wide 5 (hF _) rfl (by decide) (w.heap.size + 1) w.heap.size (w.heap.size + 2) (by omega) (by omega) _ _ _ _ W3 (by omega) bN.cell hb3)
    KX.trans (KX.put (w := W3) (by omega)) (Below.refl _ _) (fun _ => rfl)
    (fun pre W => (W.cell? ⟨w.heap.size, 0, none⟩ = some (.int .u64 (valB pre : Int)) ∧ W.frozen? ⟨w.heap.size, 0, none⟩ = false) ∧ Below w.heap.size W3 W)
    (fun _ _ _ => False)
    (OwnFrom.and (Own.from (fun s A B row hs hg hr => ⟨cell_kept hs.1 hg hr, (frozen_kept hs.1 hg hr).trans hs.2⟩) _) (ownFrom_below (by omega) (by omega)))
    (fun _ _ _ _ _ hs _ _ => hs)
    ⟨⟨bS3.cell, bS3.frozen⟩, Below.refl _ _⟩
    (fun x => { tmps :=
        #[Value.pointer (some { block := g, off := 0 }), Value.int IntKind.i64 ↑m, undef, undef,
          Value.int IntKind.i64 0, Value.pointer (some { block := w.heap.size, off := 0 }), undef, .int .u8 (x.2.toNat : Int),
          Value.int IntKind.i64 ↑m, Value.bool false, Value.bool false, Value.int IntKind.i64 ↑m, Value.bool false,
          Value.bool false, undef, undef, undef, undef, Value.pointer (some { block := g, off := 0 }),
          Value.pointer (some { block := g, off := 0 }), Value.pointer (some { block := g, off := 0 }),
          Value.int IntKind.i64 ↑m, Value.slice (cutA A c a) m (c - a),
          Value.func (Fn.func 63) #[] #[Value.pointer (some { block := w.heap.size + 1, off := 0 })], .int .i64 (x.1 : Int), .int .u8 (x.2.toNat : Int),
          undef, undef, undef, undef, undef, undef, undef, undef, undef, undef, undef, undef, undef, undef, undef,
          undef, undef, undef, undef, undef, undef, undef, undef], defers := [] }) ?assign ?body ?done ?stop
  case assign =>
    intro l x W K hK
    gi_wp2
    exact hK
  case body =>
    rintro l pre x W ⟨⟨hcc, hff⟩, hBB⟩ hlen
    have hst := back_step (valB pre) x.2.toNat (Nat.lt_of_lt_of_le (valB_lt8 pre) (Nat.pow_le_pow_right (by decide) (by omega))) x.2.toNat_lt
    have hv2 : ((valB (pre ++ [x]) : Nat) : Int) = (valB pre : Int) * 256 + (x.2.toNat : Int) := by rw [valB_snoc, Int.natCast_add, Int.natCast_mul]; rfl
    gi_wp2
    exact ⟨(KeepsOthers.setCell _ _ _).from _, KX.set _, ⟨by rw [hv2]; exact World.cell?_setCell_same' _ _ _ (by rw [hcc]; rfl), by rw [World.frozen?_setCell]; exact hff⟩, hBB.setCell (p := ⟨w.heap.size, 0, none⟩) (Nat.le_refl _) _⟩
  case done =>
    rintro D ys W hD hys ⟨⟨hcc, hff⟩, hBB⟩ hK
    rw [hV ys hys] at hcc
    have hcur : Cur W g 86 A n c (a + m) false := ⟨(hBB.block g hgw).trans ((hB3.block g (by omega)).trans HC.out.row), HC.out.le, HC.out.lim, HC.out.nc⟩
    have hOW : OnlyB g w W := by
      have h1 := (OnlyB.of_below (g := g) ((Below.refl w.heap.size w).alloc (Nat.le_refl _) (.cells #[.int .u64 0] 92))).trans (HO.out.trans (OnlyB.of_below hB3))
      exact ⟨hBB.os.trans h1.os, hBB.tape.trans h1.tape, hBB.output.trans h1.output, Nat.le_trans h1.size hBB.size, fun i hi hn => (hBB.block i hi).trans (h1.block i hi hn)⟩
    obtain ⟨v0, v1, v2⟩ := hcur.cells
    have t0 := hcur.thaw
    have HCu := Aside0.mk hcur
    have HOW := Aside0.mk hOW
    clear hcur hOW hBB hys
    have hgD : g ≠ D := by omega
    by_cases hbig : 9223372036854775807 < V
    · have fb : decide ((9223372036854775807 : Int) < (V : Int)) = true := decide_eq_true (by omega)
      have hwa : wrap64 (a : Int) = (a : Int) := by have := h.le; have := h.lim; unfold wrap64; omega
      gi_wp2
      rw [hwa]
      have hK2 := (KeepsOthers.setCell (W.setCell ⟨g, 2, none⟩ (.bool true)) ⟨g, 1, none⟩ (.int .i64 (a : Int))).same D _ ((KeepsOthers.setCell W ⟨g, 2, none⟩ (.bool true)).same D _ hK rfl) rfl
      refine ⟨by simp, .inl ⟨_, _, rfl, run_takeDeferred hK2, ?_⟩⟩
      refine ⟨_, results_tmp rfl _ _ _, ?_, .inr ⟨hbig, rfl, ?_⟩⟩
      · exact ((HOW.out.set 2 _).set 1 _).put (by omega) hK2 rfl rfl _
      · exact (HCu.out.sp.to h.le).put hgw (by omega) hK2 rfl rfl _
    · have fb : decide ((9223372036854775807 : Int) < (V : Int)) = false := decide_eq_false (by omega)
      gi_wp2
      refine ⟨by simp, .inl ⟨_, _, rfl, run_takeDeferred hK, ?_⟩⟩
      refine ⟨_, results_tmp rfl _ _ _, ?_, .inl ⟨by omega, rfl, ?_⟩⟩
      · exact HOW.out.put (by omega) hK rfl rfl _
      · exact HCu.out.put hgw (by omega) hK rfl rfl _
  case stop =>
    rintro D ca pre W _ _ hx _
    exact hx.elim
end Go.Proofs.Ytenibcbodjkglaa
