/- The walk of the reference's division. -/
import Derived.Test.YtenibcbodjkglaaA5
set_option linter.unusedVariables false
set_option linter.unusedSimpArgs false
namespace Go.Proofs.Ytenibcbodjkglaa
open Go.RowKit

/-- append of bools to bools. -/
theorem wpl_appbs {ops : Array Oper} {rest : List Oper} {o : Oper} {a : Act} {Q : Exit → Act → World → Prop} {w0 W : World} (base : Nat) (hgd : o.guard = none) (s x : Operand)
    (ho : o.op = .call { callee := .builtin .append, args := #[s, x], argTypes := #[89, 89] })
    (A1 : Option Addr) (n c1 : Nat) (l : List Bool) (b : Nat) (A : Option Addr) (m c : Nat) (l' : List Bool) (hs : a.eval s = .slice A1 n c1) (hx : a.eval x = .slice A m c)
    (HO : Obl W base A1 n c1 l) (HR : Obl W b A m c l') (HB : Below base w0 W) (hbase : base ≤ W.heap.size) (hl : n + m ≤ 140737488355328)
    (h : ∀ A2 c2 w1, Obl w1 base A2 (n + m) c2 (l ++ l') → Below base w0 w1 → wpList Try.prog ops Q rest (a.put o.dst (.slice A2 (n + m) c2)) w1) :
    wpList Try.prog ops Q (o :: rest) a W := by
  have hln := HR.len
  refine wpl_append (w0 := w0) base hgd s x 89 4 (.bool false) 1 1 ho Try.underlying89 infoB rfl (by omega) (by omega) _ n (blv l) A m c (blv l') hs hx HO.row (by rw [blv_length]; omega) ?_ (by intro u hu; simp only [blv, List.mem_map] at hu; obtain ⟨q, _, rfl⟩ := hu; rfl) HB hbase (by omega) ?_
  · intro hm
    obtain ⟨g, e, _⟩ := HR.at_ 0 hm
    refine ⟨_, e, fun j u hu => ?_⟩
    have hj : j < l'.length := by
      rcases Nat.lt_or_ge j l'.length with h | h
      · exact h
      · simp [blv, List.getElem?_eq_none h] at hu
    obtain ⟨g', e', _, _, hc, _⟩ := HR.at_ j (by omega)
    rw [e] at e'
    injection e' with e'
    injection e' with e'
    subst e'
    rw [add_plain, hc]
    simp [blv, List.getElem?_eq_getElem hj] at hu
    simp [← hu, List.getD_eq_getElem?_getD, List.getElem?_eq_getElem hj]
  · intro v1 w1 hown hB _ _
    obtain ⟨A2, c2, rfl⟩ := own_form hown
    exact h A2 c2 w1 ⟨by rw [blv_append]; exact hown, hl⟩ hB

def pwl : List Nat := [28, 27, 26, 25, 23, 22, 20, 19, 18, 14, 13, 11, 10, 9, 8, 6, 0]
def pw (k : Nat) : Int := ((pwl.getD k 0 : Nat) : Int)
theorem pw_range (k : Nat) : 0 ≤ pw k ∧ pw k ≤ 28 := by
  unfold pw
  have : ∀ k, pwl.getD k 0 ≤ 28 := by
    intro k
    rcases k with _|_|_|_|_|_|_|_|_|_|_|_|_|_|_|_|_|k <;> simp [pwl]
  have := this k
  omega
def flipAt (l : List Bool) (i : Nat) : List Bool := l.set i (!l.getD i false)
def flips (i : Nat) (l : List Bool) (k : Nat) : List Bool := (pwl.take k).foldl (fun l p => flipAt l (i + 32 - p)) l
theorem flips_succ (i : Nat) (l : List Bool) (k : Nat) (hk : k < 17) : flips i l (k + 1) = flipAt (flips i l k) ((i : Int) + 32 - pw k).toNat := by
  unfold flips
  rw [List.take_succ_eq_append_getElem (show k < pwl.length from hk), List.foldl_append]
  have e : ((i : Int) + 32 - pw k).toNat = i + 32 - pwl[k]'hk := by
    have : pw k = ((pwl[k]'hk : Nat) : Int) := by simp [pw, List.getD_eq_getElem?_getD, List.getElem?_eq_getElem (show k < pwl.length from hk)]; rfl
    rw [this]; omega
  rw [e]
  rfl
def stepR (l : List Bool) (i : Nat) : List Bool := if l.getD i false = true then flips i (l.set i false) 17 else l
def divR (l : List Bool) : Nat → List Bool
  | 0 => l
  | i + 1 => stepR (divR l i) i
/-- What rest tells. -/
def restL (l : List Bool) : List Bool := if 32 < l.length then (divR l (l.length - 32)).drop (l.length - 32) else l
theorem flipAt_length (l : List Bool) (i : Nat) : (flipAt l i).length = l.length := by simp [flipAt]
theorem flips_length (i : Nat) (l : List Bool) (k : Nat) : (flips i l k).length = l.length := by
  unfold flips
  generalize pwl.take k = ps
  induction ps generalizing l with
  | nil => rfl
  | cons p ps ih => rw [List.foldl_cons, ih, flipAt_length]
theorem stepR_length (l : List Bool) (i : Nat) : (stepR l i).length = l.length := by
  unfold stepR
  split
  · rw [flips_length, List.length_set]
  · rfl
theorem divR_length (l : List Bool) (i : Nat) : (divR l i).length = l.length := by
  induction i with
  | zero => rfl
  | succ i ih => rw [divR, stepR_length, ih]
theorem pw_cells (w : World) (T : TypeId) (k : Nat) (h : k < 17) : (w.alloc (.cells #[.int .i64 28, .int .i64 27, .int .i64 26, .int .i64 25, .int .i64 23, .int .i64 22, .int .i64 20, .int .i64 19, .int .i64 18, .int .i64 14, .int .i64 13, .int .i64 11, .int .i64 10, .int .i64 9, .int .i64 8, .int .i64 6, .int .i64 0] T)).cell? ⟨w.heap.size, k, none⟩ = some (.int .i64 (pw k)) := by
  rw [cell_of_row _ _ _ _ _ _ (heap_alloc_new w _)]
  rcases k with _|_|_|_|_|_|_|_|_|_|_|_|_|_|_|_|_|k <;> first | rfl | omega
theorem Obl.lit (w : World) (base N : Nat) (hN : w.heap.size = N) (h : base ≤ w.heap.size) : Obl (w.alloc (.cells #[] 4)) base (some ⟨N, 0, none⟩) 0 0 [] := by
  subst hN
  exact ⟨by simpa [blv] using World.ownsRow_lit (base := base) (e := 4) (size := 1) w #[] 0 h (by simp [maxLen]) (by simp), by omega⟩

theorem elemB : Try.prog.elem 89 = 4 := by simp [Program.elem, Try.underlying89]
theorem undB : Try.prog.underlying 89 = some (.slice (Try.prog.elem 89)) := by rw [elemB]; exact Try.underlying89
theorem sizeB (w : World) : (sizeOf (Try.prog.elem 89)).run Try.prog w = .ok 1 w := by
  rw [elemB]
  obtain ⟨i, hi, hz⟩ := Option.map_eq_some_iff.1 infoB
  simp only [Prod.mk.injEq] at hz
  simp [sizeOf, typeInfo, hi, hz.2.1]
theorem slB_l (w : World) (A : Option Addr) (n c : Nat) (kl : IntKind) (l : Int) (h0 : 0 ≤ l) (h1 : l ≤ (n : Int)) :
    (Instr.slice 89 (.slice A n c) (some (.int kl l)) none none).run Try.prog w = .ok (.slice (cutA A c l.toNat) (n - l.toNat) (c - l.toNat)) w := by
  rw [run_slice_l w _ A n c undB kl l h0 h1, sizeB]
  simp [sliced, cutA, Result.andThen]
/-- What rest hands back: bools that can be read. -/
def RetL (w : World) (l : List Bool) (e : Ending) (w' : World) : Prop := ∃ A' c', e = .returned (.slice A' l.length c') ∧ (∀ j, j < l.length → ∃ ad, A' = some ad ∧ w'.cell? (ad.add j) = some (.bool (l.getD j false))) ∧ Below w.heap.size w w'
abbrev pwBox : Obj := .cells #[.int .i64 28, .int .i64 27, .int .i64 26, .int .i64 25, .int .i64 23, .int .i64 22, .int .i64 20, .int .i64 19, .int .i64 18, .int .i64 14, .int .i64 13, .int .i64 11, .int .i64 10, .int .i64 9, .int .i64 8, .int .i64 6, .int .i64 0] 3
set_option maxHeartbeats 4000000 in
set_option maxRecDepth 100000 in
theorem rrest_any (b : Nat) (A : Option Addr) (n c : Nat) (l : List Bool) (w : World) (hb : Obl w b A n c l) (hn : n ≤ 1000000) :
    Calls Try.prog 60 #[.slice A n c] w (RetL w (restL l)) := by
  have hlen := Aside0.mk hb.len
  have HO := Aside0.mk (Obl.lit (w.alloc pwBox) (w.heap.size + 1) (w.heap.size + 1) (by simp) (by simp))
  have HR := Aside0.mk hb
  have hP := Aside0.mk (pw_cells w 3)
  clear hb
  go_enter Try.func60, Try.ntmps60
  go_wp2_with (at_builtin; (refine wpl_appbs (w0 := w.alloc pwBox) (w.heap.size + 1) rfl _ _ rfl _ 0 0 [] b A n c l rfl rfl HO.out ((HR.out.alloc _).alloc _) ((Below.refl _ _).alloc (by simp) _) (by simp) (by omega) ?_); intro A2 c2 w2 hO hB)
  have hO' := Aside0.mk hO
  have hB' := Aside0.mk hB
  clear hO hB HO HR
  simp only [Nat.zero_add, List.nil_append] at hO'
  go_loopg [5] n (fun k i wr => ∃ j : Nat, Aside (k + j = n ∧ (j = 0 ∨ j + 32 ≤ n)) ∧ i = .int .i64 (j : Int) ∧ Aside0 (Obl wr (w.heap.size + 1) A2 n c2 (divR l j)) ∧ Aside0 (Below (w.heap.size + 1) (w.alloc pwBox) wr))
  case atStart => exact ⟨0, ⟨rfl, .inl rfl⟩, rfl, by simpa [divR] using hO', hB'⟩
  case round =>
    obtain ⟨j, hk, rfl, hO, hB⟩ := hrel
    have hjb : j ≤ 1000000 := by have := hk.out.1; omega
    by_cases hlt : j + 32 < n
    · have hdec : decide ((j : Int) + 32 < (n : Int)) = true := decide_eq_true (by omega)
      obtain ⟨g, rfl, hg1, hg2, hx, hf⟩ := hO.out.at_ j (by omega)
      cases hbit : (divR l j).getD j false with
      | false =>
        rw [hbit] at hx
        have hbit' := Aside0.mk hbit
        clear hbit
        go_wp2
        go_roundg (n - (j + 1))
        case measure => have := hk.out.1; omega
        case rel =>
          refine ⟨j + 1, ⟨by have := hk.out.1; omega, by omega⟩, by go_num, ⟨?_⟩, hB⟩
          rw [divR, stepR, hbit'.out, if_neg (by simp)]
          exact hO.out
      | true =>
        rw [hbit] at hx
        have hbit' := Aside0.mk hbit
        clear hbit
        go_wp2
        have hO1 := Aside0.mk (hO.out.store j false)
        have hB1 := Aside0.mk (hB.out.setCell (p := ⟨g, j, none⟩) hg1 (.bool false))
        have hgs := Aside0.mk hg1
        clear hO hB hx hf hg1 hg2
        generalize hwo : wr.setCell ⟨g, j, none⟩ (.bool false) = wo at hO1 hB1 ⊢
        clear hwo
        go_loopg [6] 17 (fun k i wq => ∃ q : Nat, Aside (k + q = 17) ∧ i = .int .i64 (q : Int) ∧ Aside0 (Obl wq (w.heap.size + 1) (some ⟨g, 0, none⟩) n c2 (flips j ((divR l j).set j false) q)) ∧ Aside0 (Below (w.heap.size + 1) (w.alloc pwBox) wq))
        case atStart => exact ⟨0, rfl, rfl, by simpa [flips] using hO1, hB1⟩
        case round =>
          obtain ⟨q, hq, rfl, hO, hB⟩ := hrel
          by_cases hlq : q < 17
          · have hpw := pw_range q
            have hp0 := hpw.1
            have hp1 := hpw.2
            obtain ⟨g', he, _, _, hx, hf⟩ := hO.out.at_ ((j : Int) + 32 - pw q).toNat (by omega)
            injection he with he
            injection he with he
            subst he
            have hpc : wr.cell? ⟨w.heap.size, q, none⟩ = some (.int .i64 (pw q)) := (hB.out.cell (p := ⟨w.heap.size, q, none⟩) (by simp)).trans (hP.out q hlq)
            have hr0 : 0 ≤ (j : Int) + 32 - pw q := by omega
            have hr1 : (j : Int) + 32 - pw q < (n : Int) := by omega
            go_wp2
            go_roundg (17 - (q + 1))
            case measure => have := hq.out; omega
            case rel =>
              refine ⟨q + 1, by have := hq.out; exact (show 17 - (q + 1) + (q + 1) = 17 by omega), by go_num, ⟨?_⟩, ⟨hB.out.setCell (p := ⟨g, _, none⟩) hgs.out _⟩⟩
              rw [flips_succ _ _ _ hlq]
              exact hO.out.store _ _
          · obtain rfl : q = 17 := by have := hq.out; omega
            go_wp2
            go_roundg (n - (j + 1))
            case measure => have := hk.out.1; omega
            case rel =>
              refine ⟨j + 1, ⟨by have := hk.out.1; omega, by omega⟩, by go_num, ⟨?_⟩, hB⟩
              rw [divR, stepR, hbit'.out, if_pos rfl]
              exact hO.out
    · have hdec : decide ((j : Int) + 32 < (n : Int)) = false := decide_eq_false (by omega)
      have hB1 : Below w.heap.size w wr := ((Below.refl _ _).alloc (Nat.le_refl _) _).trans (hB.out.mono (by omega))
      by_cases h32 : 32 < n
      · obtain ⟨hcap0, hcap1⟩ := hO.out.cap
        have s1 := fun W => slB_l W A2 n c2 .i64 ((n : Int) - 32) (by omega) (by omega)
        have e1 : ((n : Int) - 32).toNat = n - 32 := by omega
        have e2 : n - (n - 32) = 32 := by omega
        rw [e1, e2] at s1
        clear e1 e2
        have h32' : (32 : Int) < (n : Int) := by omega
        go_wp2
        go_ret
        obtain rfl : j = n - 32 := by have := hk.out; omega
        have hll := hlen.out
        have hrl : restL l = (divR l (n - 32)).drop (n - 32) := by unfold restL; rw [hll, if_pos h32]
        have hl2 : (restL l).length = 32 := by rw [hrl, List.length_drop, divR_length, hll]; omega
        unfold RetL
        rw [hl2]
        refine ⟨_, _, rfl, fun q hq => ?_, hB1⟩
        obtain ⟨g, rfl, _, _, hx, _⟩ := hO.out.at_ (n - 32 + q) (by omega)
        unfold cutA
        rw [if_neg (by omega)]
        refine ⟨_, rfl, ?_⟩
        rw [add_add, add_plain, hx, hrl]
        simp [List.getD_eq_getElem?_getD, List.getElem?_drop]
      · have h32' : ¬ (32 : Int) < (n : Int) := by omega
        go_wp2
        go_ret
        have hll := hlen.out
        have hrl : restL l = l := by unfold restL; rw [hll, if_neg h32]
        obtain rfl : j = 0 := by have := hk.out; omega
        unfold RetL
        rw [hrl, hll]
        refine ⟨_, _, rfl, fun q hq => ?_, hB1⟩
        obtain ⟨g, rfl, _, _, hx, _⟩ := hO.out.at_ q hq
        refine ⟨_, rfl, ?_⟩
        rw [add_plain, hx]
        rfl

end Go.Proofs.Ytenibcbodjkglaa
