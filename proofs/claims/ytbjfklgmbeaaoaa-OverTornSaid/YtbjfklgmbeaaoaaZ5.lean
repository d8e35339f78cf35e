/- The walk of field's own small example. The walks of regaugeref03's small functions: room, Take, Skip, Writer. The walks of regaugeref03's Writer and Bytes. The walk of regaugeref03's Put. The walk of a writer's Bytes. A slice of calls (Op): read; and the walk of few. The walk of FieldWrites: a writer, and the document's own, call by call. A writer in memory, and a reader beside it. The plain law of what was put and is got. -/
import Derived.Test.YtbjfklgmbeaaoaaZ4
import Derived.Laws.CopyOwn
import Derived.StillTailTactics
import Derived.Deep.DeepCutAuto
import Derived.BigQuiet
set_option linter.unusedVariables false
set_option linter.unusedSimpArgs false
namespace Go.Proofs.Ytbjfklgmbeaaoaa
open Go.RowKit

def ex3 : List UInt8 := [1, 2, 7, 0]
theorem put3 : putS (putS ⟨0, false, List.replicate 4 0⟩ 513 2) 7 1 = ⟨3, false, ex3⟩ := by rfl
/-- What the small example keeps. -/
structure I03 (w : World) (g g2 : Nat) (gr : Nat) (A1 : Option Addr) (c1 : Nat) (a : Nat) (sp : Bool) (A2 : Option Addr) (c2 : Nat) (W : World) : Prop where
  wr : Wr W w.heap.size g g2 4 ⟨3, false, ex3⟩
  cur : Cur W gr 105 A1 4 c1 a sp
  row : Bs W A1 4 c1 ex3
  out : Bs W A2 4 c2 ex3
  bel : Below w.heap.size w W
theorem I03.step {w W W1 : World} {g g2 gr c1 a c2 : Nat} {A1 A2 : Option Addr} {sp : Bool} (h : I03 w g g2 gr A1 c1 a sp A2 c2 W) (hB : Below W.heap.size W W1) : I03 w g g2 gr A1 c1 a sp A2 c2 W1 :=
  ⟨h.wr.below hB, h.cur.below hB, h.row.below hB, h.out.below hB, below_then h.bel h.bel.size hB⟩
theorem Wr.only {w W : World} {base g g2 c k : Nat} {s : WS} (h : Wr w base g g2 c s) (ho : OnlyB k w W) (h1 : g ≠ k) (h2 : g2 ≠ k) : Wr W base g g2 c s :=
  ⟨h.cur.only ho h1, h.own.only ho (fun j e => by injection e with e; injection e with e; subst e; exact h2), h.ne, h.lo, h.lo2⟩
theorem I03.go {w W W1 : World} {g g2 gr c1 a c2 a' : Nat} {A1 A2 : Option Addr} {sp sp' : Bool} (h : I03 w g g2 gr A1 c1 a sp A2 c2 W) (ho : OnlyB gr W W1) (h0 : w.heap.size ≤ gr) (h1 : g ≠ gr) (h2 : g2 ≠ gr)
    (h3 : ∀ ad, A1 = some ad → 0 < 4 → ad.block ≠ gr) (h4 : ∀ ad, A2 = some ad → 0 < 4 → ad.block ≠ gr) (hc : Cur W1 gr 105 A1 4 c1 a' sp') : I03 w g g2 gr A1 c1 a' sp' A2 c2 W1 :=
  ⟨h.wr.only ho h1 h2, hc, h.row.only ho h3, h.out.only ho h4, ho.below h.bel h0 (Nat.le_refl _)⟩

end Go.Proofs.Ytbjfklgmbeaaoaa

set_option linter.unusedVariables false
set_option linter.unusedSimpArgs false
namespace Go.Proofs.Ytbjfklgmbeaaoaa
open Go.RowKit

/-- The document's state, as a value. -/
def stV (A : Option Addr) (n c a : Nat) (sp : Bool) : Value := .agg #[.slice A n c, .int .i64 (a : Int), .bool sp]
def roomB (n a : Nat) (sp : Bool) (m : Int) : Bool := decide (sp = false ∧ 0 ≤ m ∧ m ≤ (n : Int) - (a : Int))
theorem Ow.keptb {w w1 : World} {base n c : Nat} {A : Option Addr} {xs : List UInt8} (h : Ow w base A n c xs) (hb : ∀ g, base ≤ g → g < w.heap.size → w1.heap[g]? = w.heap[g]?) : Ow w1 base A n c xs := by
  refine ⟨⟨h.row.1, ?_⟩, h.lim⟩
  rcases h.row.2 with hn | ⟨g, cap, cur, hv, hg, hh, rest⟩
  · exact .inl hn
  · exact .inr ⟨g, cap, cur, hv, hg, by rw [hb g hg (Array.getElem?_eq_some_iff.1 hh).1]; exact hh, rest⟩
theorem Ow.setc {w : World} {base n c g j : Nat} {A : Option Addr} {xs : List UInt8} (v : Value) (h : Ow w base A n c xs) (hg : g < base) : Ow (w.setCell ⟨g, j, none⟩ v) base A n c xs :=
  h.keptb fun k hk _ => Below.heap_setCell _ _ _ _ (show k ≠ g by omega)
theorem below_set {B g j : Nat} {w W : World} (v : Value) (h : Below B w W) (hg : B ≤ g) : Below B w (W.setCell ⟨g, j, none⟩ v) := h.setCell (p := ⟨g, j, none⟩) hg v
/-- Three cells of a row, stored one by one. -/
theorem row3_set {W : World} {g : Nat} {T : TypeId} {x y z : Value} (a b c : Value) (h : W.heap[g]? = some (.cells #[x, y, z] T)) :
    (((W.setCell ⟨g, 0, none⟩ a).setCell ⟨g, 1, none⟩ b).setCell ⟨g, 2, none⟩ c).heap[g]? = some (.cells #[a, b, c] T) := by
  have h1 := heap_setCell_same W g 0 _ _ a h
  have h2 := heap_setCell_same _ g 1 _ _ b h1
  have h3 := heap_setCell_same _ g 2 _ _ c h2
  exact h3
theorem row3_cells {W : World} {g : Nat} {T : TypeId} {x y z : Value} (h : W.heap[g]? = some (.cells #[x, y, z] T)) :
    W.cell? ⟨g, 0, none⟩ = some x ∧ W.cell? ⟨g, 1, none⟩ = some y ∧ W.cell? ⟨g, 2, none⟩ = some z ∧ ∀ j, W.frozen? ⟨g, j, none⟩ = false :=
  ⟨by rw [cell_of_row _ _ _ _ _ _ h]; rfl, by rw [cell_of_row _ _ _ _ _ _ h]; rfl, by rw [cell_of_row _ _ _ _ _ _ h]; rfl, fun j => by simp [World.frozen?, h]⟩
/-- Where the place is behind so many bytes. -/
def skA (n a : Nat) (sp : Bool) (m : Int) : Nat := if roomB n a sp m = true then a + m.toNat else a
theorem skA_le {n a : Nat} {sp : Bool} {m : Int} (ha : a ≤ n) : skA n a sp m ≤ n := by
  unfold skA
  split
  · rename_i h
    have := of_decide_eq_true h
    omega
  · exact ha

end Go.Proofs.Ytbjfklgmbeaaoaa

set_option linter.unusedVariables false
set_option linter.unusedSimpArgs false
namespace Go.Proofs.Ytbjfklgmbeaaoaa
open Go.RowKit

/-- The document's Bytes, of a writer. -/
def bytesS (s : WS) (ys : List UInt8) : WS := if roomB s.xs.length s.at_ s.sp ys.length = true then ⟨s.at_ + ys.length, false, putL s.xs ys s.at_⟩ else ⟨s.at_, true, s.xs⟩
end Go.Proofs.Ytbjfklgmbeaaoaa

set_option linter.unusedVariables false
set_option linter.unusedSimpArgs false
namespace Go.Proofs.Ytbjfklgmbeaaoaa
open Go.RowKit

theorem div_pow_succ (n : Int) (j : Nat) : n / 256 ^ j / 256 = n / 256 ^ (j + 1) := by
  rw [Int.pow_succ, Int.ediv_ediv_of_nonneg (Int.pow_nonneg (by decide))]
theorem div_pow_bound {n : Int} (h0 : 0 ≤ n) (h1 : n ≤ 9223372036854775807) (j : Nat) : 0 ≤ n / 256 ^ j ∧ n / 256 ^ j ≤ 9223372036854775807 :=
  ⟨Int.ediv_nonneg h0 (Int.pow_nonneg (by decide)), Int.le_trans (Int.ediv_le_self _ h0) h1⟩
end Go.Proofs.Ytbjfklgmbeaaoaa

set_option linter.unusedVariables false
set_option linter.unusedSimpArgs false
namespace Go.Proofs.Ytbjfklgmbeaaoaa
open Go.RowKit

theorem take_splice {α : Type} (L Y : List α) (a n : Nat) (h : a + Y.length ≤ n) (hn : n ≤ L.length) :
    (L.take a ++ (Y ++ L.drop (a + Y.length))).take n = (L.take n).take a ++ (Y ++ (L.take n).drop (a + Y.length)) := by
  have e1 : (L.take a).length = a := by simp; omega
  rw [List.take_append, e1, List.take_of_length_le (by rw [e1]; omega), List.take_append, List.take_of_length_le (l := Y) (by omega), List.take_take, Nat.min_eq_left (by omega), List.drop_take]
  congr 3
  omega
theorem size1 : (Try.prog.info? 5).map (·.size) = some 1 := by kernel_rfl
/-- What a copy into a row of one's own leaves. -/
theorem Ow.splice {w : World} {base g n c a : Nat} {xs ys : List UInt8} (h : Ow w base (some ⟨g, 0, none⟩) n c xs) (ha : a + ys.length ≤ n) :
    ∃ cur : Array Value, w.heap[g]? = some (.cells cur 5 (0, 0)) ∧ a + ys.length ≤ cur.size ∧
      Ow (w.setRow g (cur.toList.take a ++ (u8v ys ++ cur.toList.drop (a + (u8v ys).length))).toArray) base (some ⟨g, 0, none⟩) n c (putL xs ys a) := by
  obtain ⟨⟨h1, h2⟩, hl⟩ := h
  rcases h2 with ⟨e, _⟩ | ⟨g', cap, cur, e, hg, hh, hc, hm, hs, ht⟩
  · cases e
  · injection e with e1 e2 e3
    injection e1 with e1
    injection e1 with e1
    subst e1
    subst e3
    rw [Nat.mul_one] at hs ht h1
    have hyl := u8v_length ys
    refine ⟨cur, hh, by omega, ⟨?_, .inr ⟨g, c, _, rfl, hg, setRow_heap _ _ _ _ _ _ hh, hc, hm, ?_, ?_⟩⟩, hl⟩
    · have hxl : xs.length = n := by rw [← u8v_length xs]; exact h1
      rw [u8v_length, putL_length _ _ _ (by omega), Nat.mul_one]
      exact hxl
    · simp [List.length_append, hyl]; omega
    · rw [Nat.mul_one, List.toList_toArray, take_splice _ _ _ _ (by omega) (by simp; omega), ht, putL, u8v_append, u8v_append, hyl]
      simp [u8v, List.map_take, List.map_drop]
set_option maxHeartbeats 1000000 in
set_option maxRecDepth 100000 in
theorem wbytes_any (base g g2 c : Nat) (s : WS) (B : Option Addr) (m d : Nat) (ys : List UInt8) (w : World) (h : Wr w base g g2 c s) (hy : Bs w B m d ys) (hn1 : ∀ ad, B = some ad → 0 < m → ad.block ≠ g) (hn2 : ∀ ad, B = some ad → 0 < m → ad.block ≠ g2) :
    Calls Try.prog 88 #[.pointer (some ⟨g, 0, none⟩), .slice B m d] w fun e w' => e = .returned (.tuple #[]) ∧ Wr w' base g g2 c (bytesS s ys) ∧ Only2 g g2 w w' ∧ w'.heap.size = w.heap.size := by
  have hm := hy.len
  have hml := hy.lim
  have hle := h.cur.le
  have hnn := h.ne
  have HH := Aside0.mk (And.intro h (And.intro hy hm))
  clear hy hm
  have hO : ∀ w2, OnlyB g w w2 → Ow w2 base (some ⟨g2, 0, none⟩) s.xs.length c s.xs := fun w2 ho => HH.out.1.own.only ho (fun k e => by injection e with e; injection e with e; subst e; exact fun q => hnn q.symm)
  cases hr : roomB s.xs.length s.at_ s.sp ys.length with
  | false =>
    have hS : bytesS s ys = ⟨s.at_, true, s.xs⟩ := by unfold bytesS; rw [if_neg (by simp [hr])]
    rw [hS]
    have hno : s.sp = false → 0 ≤ (m : Int) → s.at_ + (m : Int).toNat ≤ s.xs.length → False := fun q1 q2 q3 => by
      have : roomB s.xs.length s.at_ s.sp ys.length = true := decide_eq_true ⟨q1, by omega, by rw [HH.out.2.2]; omega⟩
      rw [this] at hr
      cases hr
    have HN := Aside0.mk hno
    clear hno h hr
    go_enter Try.func88, Try.ntmps88
    go_wp2_with (first
      | (go_at_call 97; refine (next_any g _ _ _ c _ _ (m : Int) _ HH.out.1.cur).mono ?_; rintro e w2 ⟨ho, hsz, ⟨q1, rfl, hc⟩ | ⟨q1, q2, q3, rfl, hc⟩⟩ <;> (first | (have q4 := HN.out q1 q2 q3; exact q4.elim) | skip))
      | (with_reducible refine wpList_copy_nothing rfl _ _ _ _ rfl 5 Try.underlying27 size1 none B 0 0 m d rfl rfl (by simp) ?_))
    first | go_end0 | refine bodyPost_ret (results_none rfl _ _ _) rfl ?_
    exact ⟨rfl, ⟨hc, hO _ ho, hnn, HH.out.1.lo, HH.out.1.lo2⟩, Only2.of1 ho, hsz⟩
  | true =>
    obtain ⟨r1, r2, r3⟩ := of_decide_eq_true hr
    have hS : bytesS s ys = ⟨s.at_ + m, false, putL s.xs ys s.at_⟩ := by unfold bytesS; rw [if_pos hr, HH.out.2.2]
    have hro : s.at_ + m ≤ s.xs.length := by rw [HH.out.2.2] at r3; omega
    have hgo : ¬ (s.sp = true ∨ (m : Int) < 0 ∨ (s.xs.length : Int) - s.at_ < (m : Int)) := by rw [r1]; simp; omega
    have hpl : (putL s.xs ys s.at_).length = s.xs.length := putL_length _ _ _ (by rw [HH.out.2.2]; exact hro)
    rw [hS]
    have hown := HH.out.1.own.bs.le
    have HN := Aside0.mk hgo
    clear hgo h hr r3 hS
    by_cases hm0 : m = 0
    · subst hm0
      have hy0 : ys = [] := List.eq_nil_of_length_eq_zero HH.out.2.2
      go_enter Try.func88, Try.ntmps88
      go_wp2_with (first
        | (go_at_call 97; refine (next_any g _ _ _ c _ _ (0 : Int) _ HH.out.1.cur).mono ?_; rintro e w2 ⟨ho, hsz, ⟨q1, rfl, hc⟩ | ⟨q1, q2, q3, rfl, hc⟩⟩; (first | exact absurd q1 HN.out | skip))
        | (with_reducible refine wpList_copy_nothing rfl _ _ _ _ rfl 5 Try.underlying27 size1 _ B _ _ 0 d rfl rfl (by simp) ?_))
      first | go_end0 | refine bodyPost_ret (results_none rfl _ _ _) rfl ?_
      subst hy0
      refine ⟨rfl, ⟨?_, ?_, hnn, HH.out.1.lo, HH.out.1.lo2⟩, Only2.of1 ho, hsz⟩
      · rw [putL_nil]; exact hc
      · rw [putL_nil]; exact hO _ ho
    · have hcA : cutA (some ⟨g2, 0, none⟩) c s.at_ = some ⟨g2, s.at_, none⟩ := by unfold cutA; rw [if_neg (by omega)]; simp [add_plain]
      obtain ⟨ad, rfl, hcell⟩ := HH.out.2.1.cells (by omega)
      have hne1 := hn1 ad rfl (by omega)
      go_enter Try.func88, Try.ntmps88
      go_wp2_with (first
        | (go_at_call 97; refine (next_any g _ _ _ c _ _ (m : Int) _ HH.out.1.cur).mono ?_; rintro e w2 ⟨ho, hsz, ⟨q1, rfl, hc⟩ | ⟨q1, q2, q3, rfl, hc⟩⟩ <;> (first | exact absurd q1 HN.out | skip); obtain ⟨cur, hcur, hfit, hOw⟩ := (hO w2 ho).splice (ys := ys) (a := s.at_) (by rw [HH.out.2.2]; exact hro); (have HC := Aside0.mk (And.intro hcur (And.intro hfit (And.intro hOw (And.intro hc (And.intro ho hsz)))))); (have HS := Aside0.mk (show ∀ j v, (u8v ys)[j]? = some v → w2.cell? (ad.add j) = some v from fun j v hj => by
            have hjl : j < m := by
              rcases Nat.lt_or_ge j m with h | h
              · exact h
              · rw [List.getElem?_eq_none (by rw [u8v_length, HH.out.2.2]; exact h)] at hj
                cases hj
            rw [u8v_get ys j (by rw [HH.out.2.2]; exact hjl)] at hj
            injection hj with hj
            subst hj
            exact ho.cell (by rw [add_block]; exact hne1) (hcell j hjl))); clear hcur hfit hOw hc ho hsz)
        | (with_reducible refine wpList_copy_own rfl _ _ _ _ rfl 5 Try.underlying27 size1 g2 s.at_ m _ ad m d rfl rfl cur _ HC.out.1 (u8v ys) (by rw [u8v_length, HH.out.2.2]; exact (Nat.min_self m).symm) HS.out (by rw [u8v_length]; exact HC.out.2.1) (u8v_one ys) ?_))
      first | go_end0 | refine bodyPost_ret (results_none rfl _ _ _) rfl ?_
      have hO2 : OnlyB g2 w2 (w2.setRow g2 (cur.toList.take s.at_ ++ (u8v ys ++ cur.toList.drop (s.at_ + (u8v ys).length))).toArray) := ⟨rfl, rfl, rfl, by simp, fun i _ hi => setRow_other _ _ _ _ hi⟩
      refine ⟨rfl, ⟨?_, ?_, hnn, HH.out.1.lo, HH.out.1.lo2⟩, (Only2.of1 HC.out.2.2.2.2.1).trans (Only2.of2 hO2), by rw [setRow_size]; exact HC.out.2.2.2.2.2⟩
      · show Cur _ g _ _ (putL s.xs ys s.at_).length c (s.at_ + m) false
        rw [hpl]
        exact HC.out.2.2.2.1.only hO2 hnn
      · show Ow _ base _ (putL s.xs ys s.at_).length c (putL s.xs ys s.at_)
        rw [hpl]
        exact HC.out.2.2.1
end Go.Proofs.Ytbjfklgmbeaaoaa

set_option linter.unusedVariables false
set_option linter.unusedSimpArgs false
namespace Go.Proofs.Ytbjfklgmbeaaoaa
open Go.RowKit

/-- A call, as a value. -/
structure OpV where
  k : Int
  n : Int
  wd : Int
  ys : List UInt8
/-- Its cells, from a place on. -/
structure OpC (w : World) (p : Addr) (o : OpV) (B : Option Addr) (m d : Nat) : Prop where
  c0 : w.cell? p = some (.int .i64 o.k)
  c1 : w.cell? ⟨p.block, p.off + 1, none⟩ = some (.int .i64 o.n)
  c2 : w.cell? ⟨p.block, p.off + 2, none⟩ = some (.int .i64 o.wd)
  c3 : w.cell? ⟨p.block, p.off + 3, none⟩ = some (.slice B m d)
  row : Bs w B m d o.ys
  bk : -9223372036854775808 ≤ o.k ∧ o.k ≤ 9223372036854775807
  bn : -9223372036854775808 ≤ o.n ∧ o.n ≤ 9223372036854775807
  bw : -9223372036854775808 ≤ o.wd ∧ o.wd ≤ 9223372036854775807
theorem OpC.below {w w1 : World} {p : Addr} {o : OpV} {B : Option Addr} {m d : Nat} (h : OpC w p o B m d) (hb : Below w.heap.size w w1) : OpC w1 p o B m d :=
  ⟨cell_below hb h.c0, cell_below hb h.c1, cell_below hb h.c2, cell_below hb h.c3, h.row.below hb, h.bk, h.bn, h.bw⟩
structure Ops (w : World) (A : Option Addr) (n c : Nat) (l : List OpV) : Prop where
  len : l.length = n
  le : n ≤ c
  cap : c ≤ 9223372036854775807
  lim : n ≤ 140737488355328
  cells : 0 < n → ∃ ad, A = some ad ∧ ∀ j, (hj : j < n) → ∃ B m d, OpC w (ad.add (j * 4)) (l.getD j ⟨0, 0, 0, []⟩) B m d
theorem Ops.atN {w : World} {A : Option Addr} {n c : Nat} {l : List OpV} (h : Ops w A n c l) (i : Nat) (h1 : i < n) :
    ∃ ad, A = some ad ∧ ∃ B m d, OpC w (ad.add (i * 4)) (l.getD i ⟨0, 0, 0, []⟩) B m d := by
  obtain ⟨ad, e, hc⟩ := h.cells (by omega)
  exact ⟨ad, e, hc _ h1⟩
theorem Ops.below {w w1 : World} {A : Option Addr} {n c : Nat} {l : List OpV} (h : Ops w A n c l) (hb : Below w.heap.size w w1) : Ops w1 A n c l :=
  ⟨h.len, h.le, h.cap, h.lim, fun hn => by
    obtain ⟨ad, e, hc⟩ := h.cells hn
    exact ⟨ad, e, fun j hj => by obtain ⟨B, m, d, h1⟩ := hc j hj; exact ⟨B, m, d, h1.below hb⟩⟩⟩
/-- All its bytes, counted as the program counts. -/
def totW (l : List OpV) : Nat → Int
  | 0 => 0
  | k + 1 => wrap64 (totW l k + ((l.getD k ⟨0, 0, 0, []⟩).ys.length : Int))

end Go.Proofs.Ytbjfklgmbeaaoaa

set_option linter.unusedVariables false
set_option linter.unusedSimpArgs false
namespace Go.Proofs.Ytbjfklgmbeaaoaa
open Go.RowKit

theorem Wr.lt {w : World} {base g g2 c : Nat} {s : WS} (h : Wr w base g g2 c s) : g < w.heap.size ∧ g2 < w.heap.size := by
  refine ⟨(Array.getElem?_eq_some_iff.1 h.cur.row).1, ?_⟩
  rcases h.own.row.2 with ⟨e, _⟩ | ⟨g', cap, cur, e, hg, hh, _⟩
  · cases e
  · injection e with e
    injection e with e
    injection e with e
    subst e
    exact (Array.getElem?_eq_some_iff.1 hh).1
theorem Bs.only2 {g h : Nat} {w W : World} {A : Option Addr} {n c : Nat} {xs : List UInt8} (k : Bs w A n c xs) (ho : Only2 g h w W) (h1 : ∀ ad, A = some ad → 0 < n → ad.block ≠ g) (h2 : ∀ ad, A = some ad → 0 < n → ad.block ≠ h) : Bs W A n c xs :=
  ⟨k.len, k.le, k.cap, k.lim, fun hn => by
    obtain ⟨ad, e, hc⟩ := k.cells hn
    exact ⟨ad, e, fun i hi => by
      rw [← hc i hi]
      exact World.cell?_of_block (ho.block _ (by rw [add_block]; exact k.lt ad e hn) (by rw [add_block]; exact h1 ad e hn) (by rw [add_block]; exact h2 ad e hn))⟩⟩
theorem set3_only {W : World} (N : Nat) (a b c : Value) : OnlyB N W (((W.setCell ⟨N, 0, none⟩ a).setCell ⟨N, 1, none⟩ b).setCell ⟨N, 2, none⟩ c) :=
  (((OnlyB.refl N W).set 0 a).set 1 b).set 2 c
/-- One call's doing. -/
def skipS (s : WS) (m : Int) : WS := ⟨skA s.xs.length s.at_ s.sp m, !roomB s.xs.length s.at_ s.sp m, s.xs⟩
theorem bytesS_len (s : WS) (ys : List UInt8) (h : s.at_ ≤ s.xs.length) : (bytesS s ys).xs.length = s.xs.length ∧ (bytesS s ys).at_ ≤ (bytesS s ys).xs.length := by
  unfold bytesS
  split
  · rename_i hr
    obtain ⟨_, _, r3⟩ := of_decide_eq_true hr
    dsimp only
    rw [putL_length _ _ _ (by omega)]
    exact ⟨rfl, by omega⟩
  · exact ⟨rfl, h⟩
theorem putS_len (s : WS) (n wd : Int) (h : s.at_ ≤ s.xs.length) : (putS s n wd).xs.length = s.xs.length ∧ (putS s n wd).at_ ≤ (putS s n wd).xs.length := by
  unfold putS
  split
  · rename_i hr
    dsimp only
    rw [putL_length _ _ _ (by rw [le8_length]; exact hr.2.2)]
    exact ⟨rfl, hr.2.2⟩
  · exact ⟨rfl, h⟩
theorem skipS_len (s : WS) (m : Int) (h : s.at_ ≤ s.xs.length) : (skipS s m).xs.length = s.xs.length ∧ (skipS s m).at_ ≤ (skipS s m).xs.length := ⟨rfl, skA_le h⟩
theorem skip_wr (base g g2 c : Nat) (s : WS) (m : Int) (w : World) (h : Wr w base g g2 c s) :
    Calls Try.prog 63 #[.pointer (some ⟨g, 0, none⟩), .int .i64 m] w fun e w' => e = .returned (.tuple #[]) ∧ Wr w' base g g2 c (skipS s m) ∧ Only2 g g2 w w' := by
  refine (skip_any g _ _ _ _ _ _ m w h.cur).mono ?_
  have hle := h.cur.le
  have hown : ∀ w', OnlyB g w w' → Ow w' base (some ⟨g2, 0, none⟩) s.xs.length c s.xs := fun w' ho => h.own.only ho (fun k e => by injection e with e; injection e with e; subst e; exact fun q => h.ne q.symm)
  rintro e w' ⟨rfl, ho, _, ⟨q, hc⟩ | ⟨q1, q2, q3, hc⟩⟩
  · have hr : roomB s.xs.length s.at_ s.sp m = false := decide_eq_false (fun k => by
      obtain ⟨k1, k2, k3⟩ := k
      rcases q with q | q | q
      · rw [k1] at q; cases q
      · omega
      · omega)
    have hS : skipS s m = ⟨s.at_, true, s.xs⟩ := by unfold skipS skA; rw [hr]; rfl
    rw [hS]
    exact ⟨rfl, ⟨hc, hown _ ho, h.ne, h.lo, h.lo2⟩, Only2.of1 ho⟩
  · have hr : roomB s.xs.length s.at_ s.sp m = true := decide_eq_true ⟨q1, q2, by omega⟩
    have hS : skipS s m = ⟨s.at_ + m.toNat, false, s.xs⟩ := by unfold skipS skA; rw [hr]; rfl
    rw [hS]
    exact ⟨rfl, ⟨hc, hown _ ho, h.ne, h.lo, h.lo2⟩, Only2.of1 ho⟩
end Go.Proofs.Ytbjfklgmbeaaoaa

set_option linter.unusedVariables false
set_option linter.unusedSimpArgs false
namespace Go.Proofs.Ytbjfklgmbeaaoaa
open Go.RowKit

structure WI (w : World) (g g2 c : Nat) (s : WS) (W : World) : Prop where
  wr : Wr W w.heap.size g g2 c s
  bel : Below w.heap.size w W
theorem WI.step {w W W1 : World} {g g2 c : Nat} {s : WS} (h : WI w g g2 c s W) (hB : Below W.heap.size W W1) : WI w g g2 c s W1 := ⟨h.wr.below hB, below_then h.bel h.bel.size hB⟩
theorem WI.writer {w W W1 : World} {g g2 c : Nat} {s s1 : WS} (h : WI w g g2 c s W) (ho : Only2 g g2 W W1) (h1 : Wr W1 w.heap.size g g2 c s1) : WI w g g2 c s1 W1 := ⟨h1, ho.below h.bel h.wr.lo h.wr.lo2 (Nat.le_refl _)⟩
theorem WI.only {w W W1 : World} {g g2 c k : Nat} {s : WS} (h : WI w g g2 c s W) (ho : OnlyB k W W1) (h1 : g ≠ k) (h2 : g2 ≠ k) (h0 : w.heap.size ≤ k) : WI w g g2 c s W1 := ⟨h.wr.only ho h1 h2, ho.below h.bel h0 (Nat.le_refl _)⟩
theorem row4_cells' {W : World} {g : Nat} {T : TypeId} {x y z u : Value} (h : W.heap[g]? = some (.cells #[x, y, z, u] T)) :
    W.cell? ⟨g, 0, none⟩ = some x ∧ W.cell? ⟨g, 1, none⟩ = some y ∧ W.cell? ⟨g, 2, none⟩ = some z ∧ W.cell? ⟨g, 3, none⟩ = some u :=
  ⟨by rw [cell_of_row _ _ _ _ _ _ h]; rfl, by rw [cell_of_row _ _ _ _ _ _ h]; rfl, by rw [cell_of_row _ _ _ _ _ _ h]; rfl, by rw [cell_of_row _ _ _ _ _ _ h]; rfl⟩

/-- A writer at rest, and a reader beside it. -/
structure RI (w : World) (g g2 c gr : Nat) (A1 : Option Addr) (c1 : Nat) (s : WS) (a : Nat) (sp : Bool) (xs : List UInt8) (W : World) : Prop where
  wi : WI w g g2 c s W
  cur : Cur W gr 105 A1 xs.length c1 a sp
  row : Bs W A1 xs.length c1 xs
  ne : ∀ ad, A1 = some ad → 0 < xs.length → ad.block ≠ gr
  n1 : g ≠ gr
  n2 : g2 ≠ gr
  n0 : w.heap.size ≤ gr
  nw : ∀ ad, A1 = some ad → 0 < xs.length → ad.block ≠ g ∧ ad.block ≠ g2
theorem RI.step {w W W1 : World} {g g2 c gr c1 a : Nat} {A1 : Option Addr} {s : WS} {sp : Bool} {xs : List UInt8} (h : RI w g g2 c gr A1 c1 s a sp xs W) (hB : Below W.heap.size W W1) : RI w g g2 c gr A1 c1 s a sp xs W1 :=
  ⟨h.wi.step hB, h.cur.below hB, h.row.below hB, h.ne, h.n1, h.n2, h.n0, h.nw⟩
theorem RI.go {w W W1 : World} {g g2 c gr c1 a a' : Nat} {A1 : Option Addr} {s : WS} {sp sp' : Bool} {xs : List UInt8} (h : RI w g g2 c gr A1 c1 s a sp xs W) (ho : OnlyB gr W W1) (hc : Cur W1 gr 105 A1 xs.length c1 a' sp') : RI w g g2 c gr A1 c1 s a' sp' xs W1 :=
  ⟨h.wi.only ho h.n1 h.n2 h.n0, hc, h.row.only ho h.ne, h.ne, h.n1, h.n2, h.n0, h.nw⟩
theorem RI.writer {w W W1 : World} {g g2 c gr c1 a : Nat} {A1 : Option Addr} {s s1 : WS} {sp : Bool} {xs : List UInt8} (h : RI w g g2 c gr A1 c1 s a sp xs W) (ho : Only2 g g2 W W1) (h1 : Wr W1 w.heap.size g g2 c s1) : RI w g g2 c gr A1 c1 s1 a sp xs W1 :=
  ⟨h.wi.writer ho h1, ⟨by rw [ho.block gr (Array.getElem?_eq_some_iff.1 h.cur.row).1 (fun e => h.n1 e.symm) (fun e => h.n2 e.symm)]; exact h.cur.row, h.cur.le, h.cur.lim, h.cur.nc⟩, h.row.only2 ho (fun ad e h0 => (h.nw ad e h0).1) (fun ad e h0 => (h.nw ad e h0).2), h.ne, h.n1, h.n2, h.n0, h.nw⟩
theorem RI.lt {w W : World} {g g2 c gr c1 a : Nat} {A1 : Option Addr} {s : WS} {sp : Bool} {xs : List UInt8} (h : RI w g g2 c gr A1 c1 s a sp xs W) : gr < W.heap.size := (Array.getElem?_eq_some_iff.1 h.cur.row).1
theorem err_ok (g : Nat) (A : Option Addr) (n c a : Nat) (w : World) (h : Cur w g 105 A n c a false) :
    Calls Try.prog 60 #[.pointer (some ⟨g, 0, none⟩)] w fun e w' => e = .returned (.int .i64 0) ∧ w = w' := err_any g A n c a false w h
end Go.Proofs.Ytbjfklgmbeaaoaa

set_option linter.unusedVariables false
set_option linter.unusedSimpArgs false
namespace Go.Proofs.Ytbjfklgmbeaaoaa
open Go.RowKit

theorem leN_snoc (xs : List UInt8) (b : UInt8) : leN (xs ++ [b]) = leN xs + 256 ^ xs.length * b.toNat := by
  induction xs with
  | nil => simp [leN]
  | cons x t ih =>
    simp only [List.cons_append, leN, ih, List.length_cons, Nat.pow_succ]
    rw [Nat.mul_add, Nat.mul_comm (256 ^ t.length) 256, Nat.mul_assoc]
    omega
theorem leN_le8 (n : Nat) (k : Nat) : leN (le8 (n : Int) k) = n % 256 ^ k := by
  induction k with
  | zero => simp [le8, leN, Nat.mod_one]
  | succ k ih =>
    have e : (UInt8.ofNat ((n : Int) / 256 ^ k % 256).toNat).toNat = n / 256 ^ k % 256 := by
      rw [UInt8.toNat_ofNat', show (n : Int) / 256 ^ k % 256 = ((n / 256 ^ k % 256 : Nat) : Int) by rw [Int.natCast_emod, Int.natCast_ediv, Int.natCast_pow]; rfl, Int.toNat_natCast]
      omega
    rw [le8, leN_snoc, le8_length, ih, e, Nat.pow_succ, Nat.mod_mul]
theorem leN_back {n wd : Int} (h : fitsB n wd = true) : (leN (le8 n wd.toNat) : Int) = n := by
  obtain ⟨_, _, h3, h4⟩ := of_decide_eq_true h
  obtain ⟨m, rfl⟩ := Int.eq_ofNat_of_zero_le h3
  rw [leN_le8, Nat.mod_eq_of_lt]
  exact Int.ofNat_lt.1 (by rw [Int.natCast_pow]; exact h4)
/-- What one call writes. -/
def encO (o : OpV) : List UInt8 := if o.k = 0 then (if fitsB o.n o.wd = true then le8 o.n o.wd.toNat else []) else if o.k = 1 then o.ys else []
def encs (l : List OpV) : Nat → List UInt8
  | 0 => []
  | j + 1 => encs l j ++ encO (l.getD j ⟨0, 0, 0, []⟩)
theorem encO_len (o : OpV) : (encO o).length ≤ 8 + o.ys.length := by
  unfold encO
  split
  · split
    · rename_i h
      obtain ⟨_, h2, _, _⟩ := of_decide_eq_true h
      rw [le8_length]
      omega
    · simp
  · split
    · omega
    · simp
def tot (l : List OpV) : Nat → Nat
  | 0 => 0
  | k + 1 => tot l k + (l.getD k ⟨0, 0, 0, []⟩).ys.length
theorem encs_len (l : List OpV) (j : Nat) : (encs l j).length ≤ 8 * j + tot l j := by
  induction j with
  | zero => simp [encs, tot]
  | succ j ih =>
    have := encO_len (l.getD j ⟨0, 0, 0, []⟩)
    simp only [encs, tot, List.length_append]
    omega
theorem encs_mono (l : List OpV) {i j : Nat} (h : i ≤ j) : ∃ t, encs l j = encs l i ++ t := by
  induction j with
  | zero =>
    obtain rfl : i = 0 := by omega
    exact ⟨[], by simp⟩
  | succ j ih =>
    rcases Nat.lt_or_ge i (j + 1) with hlt | hge
    · obtain ⟨t, ht⟩ := ih (by omega)
      exact ⟨t ++ encO (l.getD j ⟨0, 0, 0, []⟩), by rw [encs, ht, List.append_assoc]⟩
    · obtain rfl : i = j + 1 := by omega
      exact ⟨[], by simp⟩
theorem totW_tot (l : List OpV) (hl : ∀ j, (l.getD j ⟨0, 0, 0, []⟩).ys.length ≤ 140737488355328) (k : Nat) (hk : k ≤ 100) : totW l k = (tot l k : Int) ∧ tot l k ≤ k * 140737488355328 := by
  induction k with
  | zero => simp [totW, tot]
  | succ k ih =>
    obtain ⟨h1, h2⟩ := ih (by omega)
    have h3 := hl k
    have h4 : tot l k + (l.getD k ⟨0, 0, 0, []⟩).ys.length ≤ (k + 1) * 140737488355328 := by rw [Nat.add_mul]; omega
    refine ⟨?_, h4⟩
    simp only [totW, tot, h1]
    unfold wrap64
    have : (k + 1) * 140737488355328 ≤ 100 * 140737488355328 := Nat.mul_le_mul_right _ (by omega)
    omega
theorem Ops.ysLe {w : World} {A : Option Addr} {n c : Nat} {l : List OpV} (h : Ops w A n c l) (j : Nat) : (l.getD j ⟨0, 0, 0, []⟩).ys.length ≤ 140737488355328 := by
  by_cases hj : j < n
  · obtain ⟨_, _, B, m, d, ho⟩ := h.atN j hj
    rw [ho.row.len]
    exact ho.row.lim
  · rw [List.getD_eq_getElem?_getD, List.getElem?_eq_none (by rw [h.len]; omega)]
    simp
/-- What a writer of so many bytes is behind so many calls. -/
def backS (l : List OpV) (j : Nat) : WS := ⟨(encs l j).length, false, putL (List.replicate 16384 0) (encs l j) 0⟩
theorem putL_two (z e t : List UInt8) (h : e.length + t.length ≤ z.length) : putL (putL z e 0) t e.length = putL z (e ++ t) 0 := by
  unfold putL
  simp only [List.take_zero, List.nil_append, Nat.zero_add, List.length_append]
  rw [List.take_left, List.drop_append, List.drop_of_length_le (by omega), List.nil_append, List.drop_drop, List.append_assoc]
  congr 3
  omega
theorem back_put (l : List OpV) (j : Nat) (t : List UInt8) (h : (encs l j).length + t.length ≤ 16384) :
    putL (backS l j).xs t (backS l j).at_ = putL (List.replicate 16384 0) (encs l j ++ t) 0 := putL_two _ _ _ (by rw [List.length_replicate]; exact h)
theorem backS_len (l : List OpV) (j : Nat) (h : (encs l j).length ≤ 16384) : (backS l j).xs.length = 16384 := by
  unfold backS
  dsimp only
  rw [putL_length _ _ _ (by rw [List.length_replicate, Nat.zero_add]; exact h), List.length_replicate]
theorem back_drop (l : List OpV) (j n : Nat) (hj : j < n) (h : (encs l n).length ≤ 16384) :
    ((backS l n).xs.drop (encs l j).length).take (encO (l.getD j ⟨0, 0, 0, []⟩)).length = encO (l.getD j ⟨0, 0, 0, []⟩) ∧ (encs l j).length + (encO (l.getD j ⟨0, 0, 0, []⟩)).length ≤ (encs l n).length := by
  obtain ⟨t, ht⟩ := encs_mono l (show j + 1 ≤ n by omega)
  rw [encs] at ht
  constructor
  · unfold backS putL
    simp only [List.take_zero, List.nil_append, Nat.zero_add]
    rw [ht, List.append_assoc, List.append_assoc, List.drop_left, List.append_assoc, List.take_left]
  · rw [ht]
    simp
theorem encs_le (l : List OpV) {i j : Nat} (h : i ≤ j) : (encs l i).length ≤ (encs l j).length := by
  obtain ⟨t, ht⟩ := encs_mono l h
  rw [ht, List.length_append]
  omega
theorem back_none (l : List OpV) (j : Nat) (h : encO (l.getD j ⟨0, 0, 0, []⟩) = []) : backS l (j + 1) = backS l j := by
  unfold backS
  rw [encs, h, List.append_nil]
theorem back_some (l : List OpV) (j : Nat) (t : List UInt8) (h : encO (l.getD j ⟨0, 0, 0, []⟩) = t) (hb : (encs l (j + 1)).length ≤ 16384) : (⟨(backS l j).at_ + t.length, false, putL (backS l j).xs t (backS l j).at_⟩ : WS) = backS l (j + 1) := by
  have hl : (encs l j).length + t.length ≤ 16384 := by rw [encs, h, List.length_append] at hb; exact hb
  rw [back_put l j t hl]
  unfold backS
  rw [encs, h, List.length_append]
theorem back_putS (l : List OpV) (j : Nat) (o : OpV) (ho : l.getD j ⟨0, 0, 0, []⟩ = o) (h0 : o.k = 0) (hf : fitsB o.n o.wd = true) (hb : (encs l (j + 1)).length ≤ 16384) : putS (backS l j) o.n o.wd = backS l (j + 1) := by
  have he : encO (l.getD j ⟨0, 0, 0, []⟩) = le8 o.n o.wd.toNat := by rw [ho]; unfold encO; rw [if_pos h0, if_pos hf]
  rw [← back_some l j _ he hb, le8_length]
  have hj := encs_le l (Nat.le_succ j)
  have hl : (encs l j).length + o.wd.toNat ≤ 16384 := by rw [encs, he, List.length_append, le8_length] at hb; exact hb
  unfold putS
  exact if_pos ⟨hf, rfl, by rw [backS_len l j (by omega)]; exact hl⟩
theorem back_bytesS (l : List OpV) (j : Nat) (o : OpV) (ho : l.getD j ⟨0, 0, 0, []⟩ = o) (h1 : o.k = 1) (hb : (encs l (j + 1)).length ≤ 16384) : bytesS (backS l j) o.ys = backS l (j + 1) := by
  have he : encO (l.getD j ⟨0, 0, 0, []⟩) = o.ys := by rw [ho]; unfold encO; rw [if_neg (by omega), if_pos h1]
  rw [← back_some l j _ he hb]
  have hj := encs_le l (Nat.le_succ j)
  have hl : (encs l j).length + o.ys.length ≤ 16384 := by rw [encs, he, List.length_append] at hb; exact hb
  unfold bytesS
  rw [if_pos (show roomB (backS l j).xs.length (backS l j).at_ (backS l j).sp o.ys.length = true from decide_eq_true ⟨rfl, by omega, ?_⟩)]
  rw [backS_len l j (by omega)]
  show (o.ys.length : Int) ≤ (16384 : Nat) - ((encs l j).length : Int)
  omega
end Go.Proofs.Ytbjfklgmbeaaoaa
