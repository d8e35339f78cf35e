/- The walks of slices.Clone at sectors and at writes. -/
import Derived.Test.YtcegphnhohpegaaD3
import Derived.Deep.WholeRow
set_option linter.unusedVariables false
set_option linter.unusedSimpArgs false
namespace Go.Proofs.Ytcegphnhohpegaa
open Go.RowKit

set_option maxHeartbeats 1000000 in
set_option maxRecDepth 100000 in
theorem grow_down (base g : Nat) (A : Option Addr) (n c : Nat) (B : Option Addr) (m e : Nat) (d : DV) (k : Int) (w : World) (h : DM w base g A n c B m e d) (hd : d.down = true) :
    Calls Try.prog 23 #[.pointer (some ⟨g, 0, none⟩), .int .i64 k] w fun e' w' => e' = .returned (.int .i64 10) ∧ w = w' := by
  obtain ⟨c0, c1, c2, c3, c4, c5⟩ := row6_cells h.row
  rw [hd] at c5
  clear hd
  go_enter Try.func23, Try.ntmps23
  go_wp2_with fail
  go_ret
  exact ⟨rfl, rfl⟩
set_option maxHeartbeats 1000000 in
set_option maxRecDepth 100000 in
theorem grow_full (base g : Nat) (A : Option Addr) (n c : Nat) (B : Option Addr) (m e : Nat) (d : DV) (k : Int) (w : World) (h : DM w base g A n c B m e d) (hd : d.down = false) (hk : d.limit < k) :
    Calls Try.prog 23 #[.pointer (some ⟨g, 0, none⟩), .int .i64 k] w fun e' w' => e' = .returned (.int .i64 12) ∧ w = w' := by
  obtain ⟨c0, c1, c2, c3, c4, c5⟩ := row6_cells h.row
  rw [hd] at c5
  have d1 : decide (d.limit < k) = true := decide_eq_true hk
  clear hd hk
  go_enter Try.func23, Try.ntmps23
  go_wp2_with fail
  go_ret
  exact ⟨rfl, rfl⟩
/-- A slice of elements of k cells, read. -/
structure Rc (w : World) (k : Nat) (A : Option Addr) (n c : Nat) (xs : List Value) : Prop where
  len : xs.length = n * k
  le : n ≤ c
  cap : c ≤ 9223372036854775807
  lim : n ≤ 1000000000
  one : ∀ v, v ∈ xs → v.oneCell' = true
  cells : 0 < n → ∃ ad, A = some ad ∧ ∀ j u, xs[j]? = some u → w.cell? (ad.add j) = some u
theorem Oc.rc {w : World} {base k n c : Nat} {T : TypeId} {A : Option Addr} {xs : List Value} (h : Oc w base T k A n c xs) : Rc w k A n c xs := by
  refine ⟨h.len, h.cap.1, h.cap.2, h.lim, h.one, fun h0 => ?_⟩
  obtain ⟨g, rfl, _, _⟩ := h.head h0
  exact ⟨_, rfl, fun j u hu => h.row.cells (g := g) rfl j u hu⟩
theorem Rc.below {w w1 : World} {k n c : Nat} {A : Option Addr} {xs : List Value} (h : Rc w k A n c xs) (hB : Below w.heap.size w w1) : Rc w1 k A n c xs :=
  ⟨h.len, h.le, h.cap, h.lim, h.one, fun h0 => by
    obtain ⟨ad, e, hx⟩ := h.cells h0
    exact ⟨ad, e, fun j u hu => cell_below hB (hx j u hu)⟩⟩
/-- append of all elements of another one. -/
theorem wpl_rc {P : Program} {ops : Array Oper} {rest : List Oper} {o : Oper} {a : Act} {Q : Exit → Act → World → Prop} {W : World} (base : Nat) (hgd : o.guard = none) (s x : Operand) (t T : TypeId) (z : Value) (k bytes : Nat)
    (ho : o.op = .call { callee := .builtin .append, args := #[s, x], argTypes := #[t, t] })
    (ht : P.underlying t = some (.slice T)) (hinfo : (P.info? T).map (fun i => (i.zero, i.size, i.bytes)) = some (some z, k, bytes)) (hzs : z.cells.size = k) (hk : 0 < k) (hb0 : 0 < bytes) (hb1 : bytes ≤ 1000)
    (A : Option Addr) (c : Nat) (B : Option Addr) (m e : Nat) (ys : List Value) (hs : a.eval s = .slice A 0 c) (hx : a.eval x = .slice B m e)
    (HO : Oc W base T k A 0 c []) (HY : Rc W k B m e ys) (hbase : base ≤ W.heap.size) {w0 : World} (HB : Below base w0 W)
    (h : ∀ A2 c2 w1, Aside0 (Oc w1 base T k A2 m c2 ys) → Aside0 (Below base w0 w1) → wpList P ops Q rest (a.put o.dst (.slice A2 m c2)) w1) :
    wpList P ops Q (o :: rest) a W := by
  refine wpl_append (w0 := w0) base hgd s x t T z k bytes ho ht hinfo hzs hk hb0 (.slice A 0 c) 0 [] B m e ys hs hx HO.row HY.len HY.cells (fun u hu => HY.one u hu) HB hbase ?_ ?_
  · rw [Nat.zero_add]
    have := Nat.mul_le_mul HY.lim hb1
    omega
  · intro v1 w1 hown hB hg hat
    rw [Nat.zero_add, List.nil_append] at hown
    obtain ⟨A2, c2, rfl⟩ := own_form hown
    exact h A2 c2 w1 ⟨⟨hown, HY.one, HY.lim⟩⟩ ⟨hB⟩
theorem Oc.lit0 (w : World) (base : Nat) (T : TypeId) (k : Nat) (h : base ≤ w.heap.size) : Oc (w.alloc (.cells #[] T)) base T k (some ⟨w.heap.size, 0, none⟩) 0 0 [] :=
  ⟨by simpa using World.ownsRow_lit (base := base) (e := T) (size := k) w #[] 0 h (by simp [maxLen]) (by simp), fun _ h => absurd h List.not_mem_nil, by omega⟩
set_option maxHeartbeats 1000000 in
set_option maxRecDepth 100000 in
theorem cloneS_any (A : Option Addr) (n c : Nat) (xs : List Value) (w : World) (hb : Rc w 64 A n c xs) :
    Calls Try.prog 31 #[.slice A n c] w fun e w' => ∃ A' c', e = .returned (.slice A' n c') ∧ Oc w' w.heap.size 54 64 A' n c' xs ∧ Below w.heap.size w w' := by
  have hlim := hb.lim
  have hnil := fun W => Lib.run_eql_slice_nil (P := Try.prog) W 49 54 A n c 0 0 Try.underlying49
  have HB := Aside0.mk hb
  go_enter Try.func31, Try.ntmps31
  rcases A with _ | ad
  · have h0 : n = 0 := by
      rcases Nat.eq_zero_or_pos n with h | h
      · exact h
      · obtain ⟨ad, h, _⟩ := hb.cells h
        cases h
    subst h0
    obtain rfl : xs = [] := List.eq_nil_of_length_eq_zero (by rw [hb.len])
    clear hb
    go_wp2_with fail
    all_goals (go_ret; exact ⟨none, 0, rfl, Oc.nil _ _ _ _, Below.refl _ _⟩)
  · clear hb
    have HO' := Aside0.mk (Oc.lit0 w w.heap.size 54 64 (Nat.le_refl _))
    go_wp2_with (at_builtin; (refine wpl_rc (w0 := w) w.heap.size rfl _ _ 49 54 (.agg z64) 64 64 rfl Try.underlying49 info54 rfl (by omega) (by omega) (by omega) _ 0 (some ad) n c xs rfl rfl HO'.out (HB.out.below ((Below.refl _ _).alloc (Nat.le_refl _) _)) (by simp) ((Below.refl _ _).alloc (Nat.le_refl _) _) ?_); intro A2 c2 w1 hO hB)
    go_ret
    exact ⟨A2, c2, rfl, hO.out, hB.out⟩
def z65 : Array Value := #[Value.int .i64 0] ++ z64
set_option maxRecDepth 100000 in
theorem info59 : (Try.prog.info? 59).map (fun i => (i.zero, i.size, i.bytes)) = some (some (.agg z65), 65, 72) := by kernel_rfl
set_option maxHeartbeats 1000000 in
set_option maxRecDepth 100000 in
theorem cloneW_any (A : Option Addr) (n c : Nat) (xs : List Value) (w : World) (hb : Rc w 65 A n c xs) :
    Calls Try.prog 32 #[.slice A n c] w fun e w' => ∃ A' c', e = .returned (.slice A' n c') ∧ Oc w' w.heap.size 59 65 A' n c' xs ∧ Below w.heap.size w w' := by
  have hlim := hb.lim
  have hnil := fun W => Lib.run_eql_slice_nil (P := Try.prog) W 50 59 A n c 0 0 Try.underlying50
  have HB := Aside0.mk hb
  go_enter Try.func32, Try.ntmps32
  rcases A with _ | ad
  · have h0 : n = 0 := by
      rcases Nat.eq_zero_or_pos n with h | h
      · exact h
      · obtain ⟨ad, h, _⟩ := hb.cells h
        cases h
    subst h0
    obtain rfl : xs = [] := List.eq_nil_of_length_eq_zero (by rw [hb.len])
    clear hb
    go_wp2_with fail
    all_goals (go_ret; exact ⟨none, 0, rfl, Oc.nil _ _ _ _, Below.refl _ _⟩)
  · clear hb
    have HO' := Aside0.mk (Oc.lit0 w w.heap.size 59 65 (Nat.le_refl _))
    go_wp2_with (at_builtin; (refine wpl_rc (w0 := w) w.heap.size rfl _ _ 50 59 (.agg z65) 65 72 rfl Try.underlying50 info59 rfl (by omega) (by omega) (by omega) _ 0 (some ad) n c xs rfl rfl HO'.out (HB.out.below ((Below.refl _ _).alloc (Nat.le_refl _) _)) (by simp) ((Below.refl _ _).alloc (Nat.le_refl _) _) ?_); intro A2 c2 w1 hO hB)
    go_ret
    exact ⟨A2, c2, rfl, hO.out, hB.out⟩
theorem zero59 : ∀ w, (zeroValue 59).run Try.prog w = .ok (.agg z65) w := (zero_of_info (v := .agg z65) (n := 65) (by kernel_rfl)).1
theorem zero54 : ∀ w, (zeroValue 54).run Try.prog w = .ok (.agg z64) w := (zero_of_info (v := .agg z64) (n := 64) (by kernel_rfl)).1
theorem there_new (w : World) (C : Array Value) (T : TypeId) (k : Nat) (hk : C.size = k) : (w.alloc (.cells C T)).there w.heap.size 0 k := by
  intro j hj
  have hh : (w.alloc (.cells C T)).heap[w.heap.size]? = some (.cells C T (0, 0)) := heap_alloc_new w _
  refine ⟨?_, Go.Joins.unfrozen_of_block hh (0 + j)⟩
  rw [cell_of_row _ _ _ _ _ _ (heap_alloc_new w _), Nat.zero_add, Array.getElem?_eq_getElem (by omega)]
  rfl
theorem box_new (w : World) (C : Array Value) (T : TypeId) (vs : List Value) (hk : C.size = vs.length) : ((w.alloc (.cells C T)).setCells w.heap.size 0 vs).heap[w.heap.size]? = some (.cells vs.toArray T) ∧ Below w.heap.size w ((w.alloc (.cells C T)).setCells w.heap.size 0 vs) := by
  obtain ⟨h1, h2⟩ := setCells_row w w.heap.size T vs 0 (w.alloc (.cells C T)) C (heap_alloc_new w _) (by omega)
  refine ⟨?_, h2.below ((Below.refl _ w).alloc (Nat.le_refl _) _) (Nat.le_refl _) (Nat.le_refl _)⟩
  rw [h1, List.take_zero, List.nil_append, Nat.zero_add, List.drop_of_length_le (by rw [Array.length_toList]; omega), List.append_nil]
theorem range_row {w : World} {g : Nat} {T : TypeId} {vs : List Value} (h : w.heap[g]? = some (.cells vs.toArray T)) (o : Nat) (us : List Value) (hu : (vs.drop o).take us.length = us) : w.rangeAt g o us := by
  intro j v hv
  have hj := (List.getElem?_eq_some_iff.1 hv).1
  rw [cell_of_row _ _ _ _ _ _ h]
  rw [← hu, List.getElem?_take_of_lt hj, List.getElem?_drop] at hv
  simpa using hv
end Go.Proofs.Ytcegphnhohpegaa
