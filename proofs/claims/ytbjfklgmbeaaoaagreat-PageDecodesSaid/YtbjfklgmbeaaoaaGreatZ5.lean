/- The walk of field's own small example. The walks of regaugeref03's small functions: room, Take, Skip, Writer. The walks of regaugeref03's Writer and Bytes. The walk of regaugeref03's Put. The walk of a writer's Bytes. A slice of calls (Op): read; and the walk of few. The walk of FieldWrites: a writer, and the document's own, call by call. A writer in memory, and a reader beside it. The plain law of what was put and is got. -/
import Derived.Test.YtbjfklgmbeaaoaaGreatZ4
import Derived.Laws.CopyOwn
import Derived.StillTailTactics
import Derived.Deep.DeepCutAuto
import Derived.BigQuiet
set_option linter.unusedVariables false
set_option linter.unusedSimpArgs false
namespace Go.Proofs.YtbjfklgmbeaaoaaGreat
open Go.RowKit

theorem Wr.only {w W : World} {base g g2 c k : Nat} {s : WS} (h : Wr w base g g2 c s) (ho : OnlyB k w W) (h1 : g ≠ k) (h2 : g2 ≠ k) : Wr W base g g2 c s :=
  ⟨h.cur.only ho h1, h.own.only ho (fun j e => by injection e with e; injection e with e; subst e; exact h2), h.ne, h.lo, h.lo2⟩
end Go.Proofs.YtbjfklgmbeaaoaaGreat

set_option linter.unusedVariables false
set_option linter.unusedSimpArgs false
namespace Go.Proofs.YtbjfklgmbeaaoaaGreat
open Go.RowKit

def roomB (n a : Nat) (sp : Bool) (m : Int) : Bool := decide (sp = false ∧ 0 ≤ m ∧ m ≤ (n : Int) - (a : Int))
/-- Where the place is behind so many bytes. -/
def skA (n a : Nat) (sp : Bool) (m : Int) : Nat := if roomB n a sp m = true then a + m.toNat else a
end Go.Proofs.YtbjfklgmbeaaoaaGreat

set_option linter.unusedVariables false
set_option linter.unusedSimpArgs false
namespace Go.Proofs.YtbjfklgmbeaaoaaGreat
open Go.RowKit

/-- The document's Bytes, of a writer. -/
def bytesS (s : WS) (ys : List UInt8) : WS := if roomB s.xs.length s.at_ s.sp ys.length = true then ⟨s.at_ + ys.length, false, putL s.xs ys s.at_⟩ else ⟨s.at_, true, s.xs⟩
end Go.Proofs.YtbjfklgmbeaaoaaGreat

set_option linter.unusedVariables false
set_option linter.unusedSimpArgs false
namespace Go.Proofs.YtbjfklgmbeaaoaaGreat
open Go.RowKit

end Go.Proofs.YtbjfklgmbeaaoaaGreat

set_option linter.unusedVariables false
set_option linter.unusedSimpArgs false
namespace Go.Proofs.YtbjfklgmbeaaoaaGreat
open Go.RowKit

theorem take_splice {α : Type} (L Y : List α) (a n : Nat) (h : a + Y.length ≤ n) (hn : n ≤ L.length) :
    (L.take a ++ (Y ++ L.drop (a + Y.length))).take n = (L.take n).take a ++ (Y ++ (L.take n).drop (a + Y.length)) := by
  have e1 : (L.take a).length = a := by simp; omega
  rw [List.take_append, e1, List.take_of_length_le (by rw [e1]; omega), List.take_append, List.take_of_length_le (l := Y) (by omega), List.take_take, Nat.min_eq_left (by omega), List.drop_take]
  congr 3
  omega
theorem size1 : (Tryz.prog.info? 5).map (·.size) = some 1 := by kernel_rfl
/-- What a copy into a row of one's own leaves. -/
theorem Ow.splice {w : World} {base g n c a : Nat} {xs ys : List UInt8} (h : Ow w base (some ⟨g, 0, none⟩) n c xs) (ha : a + ys.length ≤ n) :
    ∃ cur : Array Value, w.heap[g]? = some (.cells cur 5 (0, 0)) ∧ a + ys.length ≤ cur.size ∧
      Ow (w.setRow g (cur.toList.take a ++ (u8v ys ++ cur.toList.drop (a + (u8v ys).length))).toArray) base (some ⟨g, 0, none⟩) n c (putL xs ys a) := by
  obtain ⟨⟨h1, h2⟩, hl⟩ := h
  rcases h2 with ⟨e, _⟩ | ⟨g', cap, cur, e, hg, hh, hc, hm, hs, ht⟩
  · cases e
  · injection e with e1 e2 e3
    injection e1 with e1
    injection e1 with e1
    subst e1
    subst e3
    rw [Nat.mul_one] at hs ht h1
    have hyl := u8v_length ys
    refine ⟨cur, hh, by omega, ⟨?_, .inr ⟨g, c, _, rfl, hg, setRow_heap _ _ _ _ _ _ hh, hc, hm, ?_, ?_⟩⟩, hl⟩
    · have hxl : xs.length = n := by rw [← u8v_length xs]; exact h1
      rw [u8v_length, putL_length _ _ _ (by omega), Nat.mul_one]
      exact hxl
    · simp [List.length_append, hyl]; omega
    · rw [Nat.mul_one, List.toList_toArray, take_splice _ _ _ _ (by omega) (by simp; omega), ht, putL, u8v_append, u8v_append, hyl]
      simp [u8v, List.map_take, List.map_drop]
set_option maxHeartbeats 1000000 in
set_option maxRecDepth 100000 in
theorem wbytes_any (base g g2 c : Nat) (s : WS) (B : Option Addr) (m d : Nat) (ys : List UInt8) (w : World) (h : Wr w base g g2 c s) (hy : Bs w B m d ys) (hn1 : ∀ ad, B = some ad → 0 < m → ad.block ≠ g) (hn2 : ∀ ad, B = some ad → 0 < m → ad.block ≠ g2) :
    Calls Tryz.prog 44 #[.pointer (some ⟨g, 0, none⟩), .slice B m d] w fun e w' => e = .returned (.tuple #[]) ∧ Wr w' base g g2 c (bytesS s ys) ∧ Only2 g g2 w w' ∧ w'.heap.size = w.heap.size := by
  have hm := hy.len
  have hml := hy.lim
  have hle := h.cur.le
  have hnn := h.ne
  have HH := Aside0.mk (And.intro h (And.intro hy hm))
  clear hy hm
  have hO : ∀ w2, OnlyB g w w2 → Ow w2 base (some ⟨g2, 0, none⟩) s.xs.length c s.xs := fun w2 ho => HH.out.1.own.only ho (fun k e => by injection e with e; injection e with e; subst e; exact fun q => hnn q.symm)
  cases hr : roomB s.xs.length s.at_ s.sp ys.length with
  | false =>
    have hS : bytesS s ys = ⟨s.at_, true, s.xs⟩ := by unfold bytesS; rw [if_neg (by simp [hr])]
    rw [hS]
    have hno : s.sp = false → 0 ≤ (m : Int) → s.at_ + (m : Int).toNat ≤ s.xs.length → False := fun q1 q2 q3 => by
      have : roomB s.xs.length s.at_ s.sp ys.length = true := decide_eq_true ⟨q1, by omega, by rw [HH.out.2.2]; omega⟩
      rw [this] at hr
      cases hr
    have HN := Aside0.mk hno
    clear hno h hr
    go_enter Tryz.func44, Tryz.ntmps44
    go_wp2_with (first
      | (go_at_call 71; refine (next_any g _ _ _ c _ _ (m : Int) _ HH.out.1.cur).mono ?_; rintro e w2 ⟨ho, hsz, ⟨q1, rfl, hc⟩ | ⟨q1, q2, q3, rfl, hc⟩⟩ <;> (first | (have q4 := HN.out q1 q2 q3; exact q4.elim) | skip))
      | (with_reducible refine wpList_copy_nothing rfl _ _ _ _ rfl 5 Tryz.underlying22 size1 none B 0 0 m d rfl rfl (by simp) ?_))
    first | go_end0 | refine bodyPost_ret (results_none rfl _ _ _) rfl ?_
    exact ⟨rfl, ⟨hc, hO _ ho, hnn, HH.out.1.lo, HH.out.1.lo2⟩, Only2.of1 ho, hsz⟩
  | true =>
    obtain ⟨r1, r2, r3⟩ := of_decide_eq_true hr
    have hS : bytesS s ys = ⟨s.at_ + m, false, putL s.xs ys s.at_⟩ := by unfold bytesS; rw [if_pos hr, HH.out.2.2]
    have hro : s.at_ + m ≤ s.xs.length := by rw [HH.out.2.2] at r3; omega
    have hgo : ¬ (s.sp = true ∨ (m : Int) < 0 ∨ (s.xs.length : Int) - s.at_ < (m : Int)) := by rw [r1]; simp; omega
    have hpl : (putL s.xs ys s.at_).length = s.xs.length := putL_length _ _ _ (by rw [HH.out.2.2]; exact hro)
    rw [hS]
    have hown := HH.out.1.own.bs.le
    have HN := Aside0.mk hgo
    clear hgo h hr r3 hS
    by_cases hm0 : m = 0
    · subst hm0
      have hy0 : ys = [] := List.eq_nil_of_length_eq_zero HH.out.2.2
      go_enter Tryz.func44, Tryz.ntmps44
      go_wp2_with (first
        | (go_at_call 71; refine (next_any g _ _ _ c _ _ (0 : Int) _ HH.out.1.cur).mono ?_; rintro e w2 ⟨ho, hsz, ⟨q1, rfl, hc⟩ | ⟨q1, q2, q3, rfl, hc⟩⟩; (first | exact absurd q1 HN.out | skip))
        | (with_reducible refine wpList_copy_nothing rfl _ _ _ _ rfl 5 Tryz.underlying22 size1 _ B _ _ 0 d rfl rfl (by simp) ?_))
      first | go_end0 | refine bodyPost_ret (results_none rfl _ _ _) rfl ?_
      subst hy0
      refine ⟨rfl, ⟨?_, ?_, hnn, HH.out.1.lo, HH.out.1.lo2⟩, Only2.of1 ho, hsz⟩
      · rw [putL_nil]; exact hc
      · rw [putL_nil]; exact hO _ ho
    · have hcA : cutA (some ⟨g2, 0, none⟩) c s.at_ = some ⟨g2, s.at_, none⟩ := by unfold cutA; rw [if_neg (by omega)]; simp [add_plain]
      obtain ⟨ad, rfl, hcell⟩ := HH.out.2.1.cells (by omega)
      have hne1 := hn1 ad rfl (by omega)
      go_enter Tryz.func44, Tryz.ntmps44
      go_wp2_with (first
        | (go_at_call 71; refine (next_any g _ _ _ c _ _ (m : Int) _ HH.out.1.cur).mono ?_; rintro e w2 ⟨ho, hsz, ⟨q1, rfl, hc⟩ | ⟨q1, q2, q3, rfl, hc⟩⟩ <;> (first | exact absurd q1 HN.out | skip); obtain ⟨cur, hcur, hfit, hOw⟩ := (hO w2 ho).splice (ys := ys) (a := s.at_) (by rw [HH.out.2.2]; exact hro); (have HC := Aside0.mk (And.intro hcur (And.intro hfit (And.intro hOw (And.intro hc (And.intro ho hsz)))))); (have HS := Aside0.mk (show ∀ j v, (u8v ys)[j]? = some v → w2.cell? (ad.add j) = some v from fun j v hj => by
            have hjl : j < m := by
              rcases Nat.lt_or_ge j m with h | h
              · exact h
              · rw [List.getElem?_eq_none (by rw [u8v_length, HH.out.2.2]; exact h)] at hj
                cases hj
            rw [u8v_get ys j (by rw [HH.out.2.2]; exact hjl)] at hj
            injection hj with hj
            subst hj
            exact ho.cell (by rw [add_block]; exact hne1) (hcell j hjl))); clear hcur hfit hOw hc ho hsz)
        | (with_reducible refine wpList_copy_own rfl _ _ _ _ rfl 5 Tryz.underlying22 size1 g2 s.at_ m _ ad m d rfl rfl cur _ HC.out.1 (u8v ys) (by rw [u8v_length, HH.out.2.2]; exact (Nat.min_self m).symm) HS.out (by rw [u8v_length]; exact HC.out.2.1) (u8v_one ys) ?_))
      first | go_end0 | refine bodyPost_ret (results_none rfl _ _ _) rfl ?_
      have hO2 : OnlyB g2 w2 (w2.setRow g2 (cur.toList.take s.at_ ++ (u8v ys ++ cur.toList.drop (s.at_ + (u8v ys).length))).toArray) := ⟨rfl, rfl, rfl, by simp, fun i _ hi => setRow_other _ _ _ _ hi⟩
      refine ⟨rfl, ⟨?_, ?_, hnn, HH.out.1.lo, HH.out.1.lo2⟩, (Only2.of1 HC.out.2.2.2.2.1).trans (Only2.of2 hO2), by rw [setRow_size]; exact HC.out.2.2.2.2.2⟩
      · show Cur _ g _ _ (putL s.xs ys s.at_).length c (s.at_ + m) false
        rw [hpl]
        exact HC.out.2.2.2.1.only hO2 hnn
      · show Ow _ base _ (putL s.xs ys s.at_).length c (putL s.xs ys s.at_)
        rw [hpl]
        exact HC.out.2.2.1
end Go.Proofs.YtbjfklgmbeaaoaaGreat

set_option linter.unusedVariables false
set_option linter.unusedSimpArgs false
namespace Go.Proofs.YtbjfklgmbeaaoaaGreat
open Go.RowKit

end Go.Proofs.YtbjfklgmbeaaoaaGreat

set_option linter.unusedVariables false
set_option linter.unusedSimpArgs false
namespace Go.Proofs.YtbjfklgmbeaaoaaGreat
open Go.RowKit

theorem Wr.lt {w : World} {base g g2 c : Nat} {s : WS} (h : Wr w base g g2 c s) : g < w.heap.size ∧ g2 < w.heap.size := by
  refine ⟨(Array.getElem?_eq_some_iff.1 h.cur.row).1, ?_⟩
  rcases h.own.row.2 with ⟨e, _⟩ | ⟨g', cap, cur, e, hg, hh, _⟩
  · cases e
  · injection e with e
    injection e with e
    injection e with e
    subst e
    exact (Array.getElem?_eq_some_iff.1 hh).1
theorem Bs.only2 {g h : Nat} {w W : World} {A : Option Addr} {n c : Nat} {xs : List UInt8} (k : Bs w A n c xs) (ho : Only2 g h w W) (h1 : ∀ ad, A = some ad → 0 < n → ad.block ≠ g) (h2 : ∀ ad, A = some ad → 0 < n → ad.block ≠ h) : Bs W A n c xs :=
  ⟨k.len, k.le, k.cap, k.lim, fun hn => by
    obtain ⟨ad, e, hc⟩ := k.cells hn
    exact ⟨ad, e, fun i hi => by
      rw [← hc i hi]
      exact World.cell?_of_block (ho.block _ (by rw [add_block]; exact k.lt ad e hn) (by rw [add_block]; exact h1 ad e hn) (by rw [add_block]; exact h2 ad e hn))⟩⟩
/-- One call's doing. -/
def skipS (s : WS) (m : Int) : WS := ⟨skA s.xs.length s.at_ s.sp m, !roomB s.xs.length s.at_ s.sp m, s.xs⟩
theorem skip_wr (base g g2 c : Nat) (s : WS) (m : Int) (w : World) (h : Wr w base g g2 c s) :
    Calls Tryz.prog 41 #[.pointer (some ⟨g, 0, none⟩), .int .i64 m] w fun e w' => e = .returned (.tuple #[]) ∧ Wr w' base g g2 c (skipS s m) ∧ Only2 g g2 w w' := by
  refine (skip_any g _ _ _ _ _ _ m w h.cur).mono ?_
  have hle := h.cur.le
  have hown : ∀ w', OnlyB g w w' → Ow w' base (some ⟨g2, 0, none⟩) s.xs.length c s.xs := fun w' ho => h.own.only ho (fun k e => by injection e with e; injection e with e; subst e; exact fun q => h.ne q.symm)
  rintro e w' ⟨rfl, ho, _, ⟨q, hc⟩ | ⟨q1, q2, q3, hc⟩⟩
  · have hr : roomB s.xs.length s.at_ s.sp m = false := decide_eq_false (fun k => by
      obtain ⟨k1, k2, k3⟩ := k
      rcases q with q | q | q
      · rw [k1] at q; cases q
      · omega
      · omega)
    have hS : skipS s m = ⟨s.at_, true, s.xs⟩ := by unfold skipS skA; rw [hr]; rfl
    rw [hS]
    exact ⟨rfl, ⟨hc, hown _ ho, h.ne, h.lo, h.lo2⟩, Only2.of1 ho⟩
  · have hr : roomB s.xs.length s.at_ s.sp m = true := decide_eq_true ⟨q1, q2, by omega⟩
    have hS : skipS s m = ⟨s.at_ + m.toNat, false, s.xs⟩ := by unfold skipS skA; rw [hr]; rfl
    rw [hS]
    exact ⟨rfl, ⟨hc, hown _ ho, h.ne, h.lo, h.lo2⟩, Only2.of1 ho⟩
end Go.Proofs.YtbjfklgmbeaaoaaGreat

set_option linter.unusedVariables false
set_option linter.unusedSimpArgs false
namespace Go.Proofs.YtbjfklgmbeaaoaaGreat
open Go.RowKit

end Go.Proofs.YtbjfklgmbeaaoaaGreat

set_option linter.unusedVariables false
set_option linter.unusedSimpArgs false
namespace Go.Proofs.YtbjfklgmbeaaoaaGreat
open Go.RowKit

theorem leN_snoc (xs : List UInt8) (b : UInt8) : leN (xs ++ [b]) = leN xs + 256 ^ xs.length * b.toNat := by
  induction xs with
  | nil => simp [leN]
  | cons x t ih =>
    simp only [List.cons_append, leN, ih, List.length_cons, Nat.pow_succ]
    rw [Nat.mul_add, Nat.mul_comm (256 ^ t.length) 256, Nat.mul_assoc]
    omega
theorem leN_le8 (n : Nat) (k : Nat) : leN (le8 (n : Int) k) = n % 256 ^ k := by
  induction k with
  | zero => simp [le8, leN, Nat.mod_one]
  | succ k ih =>
    have e : (UInt8.ofNat ((n : Int) / 256 ^ k % 256).toNat).toNat = n / 256 ^ k % 256 := by
      rw [UInt8.toNat_ofNat', show (n : Int) / 256 ^ k % 256 = ((n / 256 ^ k % 256 : Nat) : Int) by rw [Int.natCast_emod, Int.natCast_ediv, Int.natCast_pow]; rfl, Int.toNat_natCast]
      omega
    rw [le8, leN_snoc, le8_length, ih, e, Nat.pow_succ, Nat.mod_mul]
theorem leN_back {n wd : Int} (h : fitsB n wd = true) : (leN (le8 n wd.toNat) : Int) = n := by
  obtain ⟨_, _, h3, h4⟩ := of_decide_eq_true h
  obtain ⟨m, rfl⟩ := Int.eq_ofNat_of_zero_le h3
  rw [leN_le8, Nat.mod_eq_of_lt]
  exact Int.ofNat_lt.1 (by rw [Int.natCast_pow]; exact h4)
end Go.Proofs.YtbjfklgmbeaaoaaGreat
