/- A region that draws its order, in which a chain of operations writes: all others are taken first under a condition S on the world, which is to be shown behind each operation of a choice 'p' alone. -/
import Derived.Test.YtcegphnhohpegaaQ0
import Derived.OrdersHeld
import Derived.Deep.MidRow
import Derived.Great.BuildSlice
import Derived.Deep.DeepCutAuto
set_option linter.unusedVariables false
set_option linter.unusedSimpArgs false
namespace Go.Proofs.Ytcegphnhohpegaa
open Go.RowKit

section
variable {P : Program} {ops : Array Oper} {Q : Exit → Act → World → Prop} {md : Region.Mode} {S : World → Prop} {p : Nat → Bool}
/-- Whatever order is picked from here on; S holds behind every operation of the choice. -/
def wpAnyM (P : Program) (md : Region.Mode) (ops : Array Oper) (Q : Exit → Act → World → Prop) (S : World → Prop) (p : Nat → Bool) : Nat → Array Bool → Act → World → Prop
  | 0, listed, a, w => Region.ready md ops listed = [] ∧ Q .normal a w
  | fuel + 1, listed, a, w =>
    (Region.ready md ops listed = [] → Q .normal a w) ∧
    ∀ i ∈ Region.ready md ops listed, wpOp P ops Q i (fun a' w' => (p i = true → S w') ∧ wpAnyM P md ops Q S p fuel (listed.setIfInBounds i true) a' w') a w
theorem wpAny_of_heldM : ∀ (fuel : Nat) (listed : Array Bool) (a : Act) (w : World), wpAnyM P md ops Q S p fuel listed a w → wpAny P md ops Q fuel listed a w
  | 0, _, _, _, h => h
  | fuel + 1, _, _, _, h => ⟨h.1, fun i hi => wpOp_mono (fun a' w' h' => wpAny_of_heldM fuel _ a' w' h'.2) (h.2 i hi)⟩
/-- What waits, directly or through others, for operation i. -/
def waitD (md : Region.Mode) (ops : Array Oper) (listed : Array Bool) (i : Nat) : List Nat :=
  (List.range ops.size).foldl (fun D j => if (!listed.getD j true) && (match ops[j]? with | some o => o.after.any fun e => Region.binds md e && (e.on == i || D.contains e.on) | none => false) then j :: D else D) []
def waitB (md : Region.Mode) (ops : Array Oper) (listed : Array Bool) (i : Nat) (D : List Nat) (p : Nat → Bool) : Bool :=
  (D.all fun j => (!listed.getD j true) && (match ops[j]? with | some o => o.after.any fun e => Region.binds md e && (e.on == i || D.contains e.on) | none => false)) && (!listed.getD i true) &&
  ((List.range ops.size).all fun j => p j || j == i || listed.getD j true || D.contains j)
structure Waits (md : Region.Mode) (ops : Array Oper) (listed : Array Bool) (i : Nat) (D : List Nat) (p : Nat → Bool) : Prop where
  un : ∀ j ∈ D, listed.getD j true = false
  dep : ∀ j ∈ D, ∃ o, ops[j]? = some o ∧ ∃ e ∈ o.after, Region.binds md e = true ∧ (e.on = i ∨ e.on ∈ D)
  ui : listed.getD i true = false
  all : ∀ j o, ops[j]? = some o → listed.getD j true = false → j ≠ i → p j = true ∨ j ∈ D
theorem waits_of {listed : Array Bool} {i : Nat} {D : List Nat} (h : waitB md ops listed i D p = true) : Waits md ops listed i D p := by
  unfold waitB at h
  simp only [Bool.and_eq_true, List.all_eq_true, Bool.not_eq_true', List.mem_range] at h
  obtain ⟨⟨h1, h2⟩, h3⟩ := h
  refine ⟨fun j hj => (h1 j hj).1, fun j hj => ?_, h2, fun j o ho hu hne => ?_⟩
  · have := (h1 j hj).2
    split at this
    · rename_i o ho
      obtain ⟨e, he, hb⟩ := Array.any_eq_true'.1 this
      simp only [Bool.and_eq_true, Bool.or_eq_true, beq_iff_eq, List.contains_iff_mem] at hb
      exact ⟨o, ho, e, he, hb.1, hb.2⟩
    · cases this
  · have := h3 j (Array.getElem?_eq_some_iff.1 ho).1
    simp only [Bool.or_eq_true, beq_iff_eq, List.contains_iff_mem] at this
    rcases this with ((q | q) | q) | q
    · exact .inl q
    · exact absurd q hne
    · rw [hu] at q; cases q
    · exact .inr q
theorem getD_flip {listed : Array Bool} {i : Nat} (h : listed.getD i true = false) : listed.getD i false = false := by
  rcases Nat.lt_or_ge i listed.size with h' | h'
  · simp [h'] at h ⊢; exact h
  · simp [Array.getElem?_eq_none h'] at h
theorem Waits.not {listed : Array Bool} {i : Nat} {D : List Nat} (h : Waits md ops listed i D p) {j : Nat} (hj : j ∈ D) : j ∉ Region.ready md ops listed := fun hr => by
  obtain ⟨_, oj, hoj, hall⟩ := mem_ready.1 hr
  obtain ⟨o, ho, e, he, hb, hc⟩ := h.dep j hj
  have : o = oj := Option.some.inj (ho.symm.trans hoj)
  subst this
  have h2 := hall e he hb
  rcases hc with hc | hc
  · rw [hc, getD_flip h.ui] at h2; cases h2
  · rw [getD_flip (h.un _ hc)] at h2; cases h2
theorem Waits.set {listed : Array Bool} {i : Nat} {D : List Nat} (h : Waits md ops listed i D p) {j : Nat} (hr : j ∈ Region.ready md ops listed) (hji : j ≠ i) : Waits md ops (listed.setIfInBounds j true) i D p :=
  ⟨fun k hk => by rw [getD_set_ne true (show j ≠ k from fun e => h.not hk (by rw [← e]; exact hr))]; exact h.un k hk, h.dep, by rw [getD_set_ne true hji]; exact h.ui, fun k o ho hu hne => by
    by_cases e : j = k
    · subst e
      exact (h.all j o ho (mem_ready.1 hr).1 hji)
    · rw [getD_set_ne true e] at hu
      exact h.all k o ho hu hne⟩
theorem wpAnyM_first {i : Nat} {oi : Oper} {v : Value} {D : List Nat} (hi : ops[i]? = some oi) (hsel : ∀ (j : Nat) (o : Oper) cs b, ops[j]? = some o → o.op ≠ .select cs b)
    (hQ : ∀ c a w, Q (.panic c) (a.put oi.dst v) w → Q (.panic c) a w) :
    ∀ (fuel : Nat) (listed : Array Bool) (a : Act) (w : World), Waits md ops listed i D p →
      (∀ j oj, ops[j]? = some oj → j ≠ i → listed.getD j true = false → (∀ e ∈ oj.after, Region.binds md e = true → e.on ≠ i) → oi.apart ops oj = true) →
      i ∈ Region.ready md ops listed → YieldsIf P ops S oi v a → S w →
      wpAnyM P md ops Q S p fuel (listed.setIfInBounds i true) (a.put oi.dst v) w → wpAnyM P md ops Q S p (fuel + 1) listed a w := by
  intro fuel
  induction fuel with
  | zero =>
    intro listed a w _ _ hr hy hS H
    refine ⟨fun h => (by rw [h] at hr; cases hr), fun j hj => ?_⟩
    by_cases hji : j = i
    · subst hji; exact hy.wpOp hi hS ⟨fun _ => hS, H⟩
    · have := ready_mono hj hji
      rw [H.1] at this
      cases this
  | succ fuel ih =>
    intro listed a w hwt hfree hr hy hS H
    refine ⟨fun h => (by rw [h] at hr; cases hr), fun j hj => ?_⟩
    by_cases hji : j = i
    · subst hji; exact hy.wpOp hi hS ⟨fun _ => hS, H⟩
    · have h1 := H.2 j (ready_mono hj hji)
      obtain ⟨hjun, oj, hoj, hall⟩ := mem_ready.1 hj
      have hnot : ∀ e ∈ oj.after, Region.binds md e = true → e.on ≠ i := fun e he hb heq => by
        have h1 := hall e he hb
        have h0 := (mem_ready.1 hr).1
        rw [heq] at h1
        rcases Nat.lt_or_ge i listed.size with h' | h'
        · simp [h'] at h0 h1; rw [h0] at h1; cases h1
        · simp [Array.getElem?_eq_none h'] at h1
      have h2 := wpOp_putIf hoj (hfree j oj hoj hji hjun hnot) (fun cs b => hsel i oi cs b hi) (fun cs b => hsel j oj cs b hoj) hQ hy h1
      have hfree' : ∀ k ok, ops[k]? = some ok → k ≠ i → (listed.setIfInBounds j true).getD k true = false →
          (∀ e ∈ ok.after, Region.binds md e = true → e.on ≠ i) → oi.apart ops ok = true := fun k ok hk hki hun hno => by
        refine hfree k ok hk hki ?_ hno
        by_cases hjk : j = k
        · subst hjk; exact hjun
        · rw [getD_set_ne true hjk] at hun; exact hun
      have hpj : p j = true := (hwt.all j oj hoj hjun hji).resolve_right (fun q => hwt.not q hj)
      refine wpOp_mono (fun a' w' h3 => ⟨fun _ => h3.2.1 hpj, ih (listed.setIfInBounds j true) a' w' (hwt.set hj hji) hfree' (ready_mono hr (Ne.symm hji)) h3.1 (h3.2.1 hpj) ?_⟩) h2
      rw [Array.setIfInBounds_comm _ _ hji]
      exact h3.2.2
/-- Take number i first. -/
theorem wpAnyM_take {i : Nat} {oi : Oper} {v : Value} {fuel : Nat} {listed : Array Bool} {a : Act} {w : World} (hi : ops[i]? = some oi)
    (hs : Region.noSelect ops = true) (hf : Region.free md ops listed i = true) (hr : (Region.ready md ops listed).contains i = true) (hw : waitB md ops listed i (waitD md ops listed i) p = true)
    (hQ : ∀ c a w, Q (.panic c) (a.put oi.dst v) w → Q (.panic c) a w) (hy : YieldsIf P ops S oi v a) (hS : S w)
    (h : wpAnyM P md ops Q S p fuel (listed.setIfInBounds i true) (a.put oi.dst v) w) : wpAnyM P md ops Q S p (fuel + 1) listed a w :=
  wpAnyM_first hi (Region.noSelect_spec hs) hQ fuel listed a w (waits_of hw) (Region.free_spec hi hf) (by simpa using hr) hy hS h
theorem wpAnyM_first0 {i : Nat} {oi : Oper} {v : Value} (hi : ops[i]? = some oi) (hsel : ∀ (j : Nat) (o : Oper) cs b, ops[j]? = some o → o.op ≠ .select cs b)
    (hQ : ∀ c a w, Q (.panic c) (a.put oi.dst v) w → Q (.panic c) a w) (hp : p i = false) :
    ∀ (fuel : Nat) (listed : Array Bool) (a : Act) (w : World),
      (∀ j oj, ops[j]? = some oj → j ≠ i → listed.getD j true = false → (∀ e ∈ oj.after, Region.binds md e = true → e.on ≠ i) → oi.apart ops oj = true) →
      i ∈ Region.ready md ops listed → YieldsIf P ops (fun _ => True) oi v a →
      wpAnyM P md ops Q S p fuel (listed.setIfInBounds i true) (a.put oi.dst v) w → wpAnyM P md ops Q S p (fuel + 1) listed a w := by
  intro fuel
  induction fuel with
  | zero =>
    intro listed a w _ hr hy H
    refine ⟨fun h => (by rw [h] at hr; cases hr), fun j hj => ?_⟩
    by_cases hji : j = i
    · subst hji; exact hy.wpOp hi trivial ⟨fun q => (by rw [hp] at q; cases q), H⟩
    · have := ready_mono hj hji
      rw [H.1] at this
      cases this
  | succ fuel ih =>
    intro listed a w hfree hr hy H
    refine ⟨fun h => (by rw [h] at hr; cases hr), fun j hj => ?_⟩
    by_cases hji : j = i
    · subst hji; exact hy.wpOp hi trivial ⟨fun q => (by rw [hp] at q; cases q), H⟩
    · have h1 := H.2 j (ready_mono hj hji)
      obtain ⟨hjun, oj, hoj, hall⟩ := mem_ready.1 hj
      have hnot : ∀ e ∈ oj.after, Region.binds md e = true → e.on ≠ i := fun e he hb heq => by
        have h1 := hall e he hb
        have h0 := (mem_ready.1 hr).1
        rw [heq] at h1
        rcases Nat.lt_or_ge i listed.size with h' | h'
        · simp [h'] at h0 h1; rw [h0] at h1; cases h1
        · simp [Array.getElem?_eq_none h'] at h1
      have h2 := wpOp_putIf hoj (hfree j oj hoj hji hjun hnot) (fun cs b => hsel i oi cs b hi) (fun cs b => hsel j oj cs b hoj) hQ hy h1
      have hfree' : ∀ k ok, ops[k]? = some ok → k ≠ i → (listed.setIfInBounds j true).getD k true = false →
          (∀ e ∈ ok.after, Region.binds md e = true → e.on ≠ i) → oi.apart ops ok = true := fun k ok hk hki hun hno => by
        refine hfree k ok hk hki ?_ hno
        by_cases hjk : j = k
        · subst hjk; exact hjun
        · rw [getD_set_ne true hjk] at hun; exact hun
      refine wpOp_mono (fun a' w' h3 => ⟨fun q => h3.2.1 q, ih (listed.setIfInBounds j true) a' w' hfree' (ready_mono hr (Ne.symm hji)) h3.1 ?_⟩) h2
      rw [Array.setIfInBounds_comm _ _ hji]
      exact h3.2.2
/-- Take number i first, that yields its value in whatever world. -/
theorem wpAnyM_take0 {i : Nat} {oi : Oper} {v : Value} {fuel : Nat} {listed : Array Bool} {a : Act} {w : World} (hi : ops[i]? = some oi)
    (hs : Region.noSelect ops = true) (hf : Region.free md ops listed i = true) (hr : (Region.ready md ops listed).contains i = true) (hp : p i = false)
    (hQ : ∀ c a w, Q (.panic c) (a.put oi.dst v) w → Q (.panic c) a w) (hy : YieldsIf P ops (fun _ => True) oi v a)
    (h : wpAnyM P md ops Q S p fuel (listed.setIfInBounds i true) (a.put oi.dst v) w) : wpAnyM P md ops Q S p (fuel + 1) listed a w :=
  wpAnyM_first0 hi (Region.noSelect_spec hs) hQ hp fuel listed a w (Region.free_spec hi hf) (by simpa using hr) hy h
theorem wpAnyM_done {listed : Array Bool} {a : Act} {w : World} (hr : Region.ready md ops listed = []) (h : Q .normal a w) : ∀ fuel, wpAnyM P md ops Q S p fuel listed a w
  | 0 => ⟨hr, h⟩
  | _ + 1 => ⟨fun _ => h, by rw [hr]; simp⟩
/-- One alone may come up, and writes. -/
theorem wpAnyM_one {i : Nat} {o : Oper} {fuel : Nat} {listed : Array Bool} {a : Act} {w : World} (hr : Region.ready md ops listed = [i]) (ho : ops[i]? = some o)
    (h : wpList P ops (fun e a' w' => e = .normal ∧ (p i = true → S w') ∧ wpAnyM P md ops Q S p fuel (listed.setIfInBounds i true) a' w') [o] a w) : wpAnyM P md ops Q S p (fuel + 1) listed a w := by
  refine ⟨fun q => (by rw [hr] at q; cases q), fun j hj => ?_⟩
  rw [hr] at hj
  obtain rfl : j = i := by simpa using hj
  unfold wpOp
  simp only [ho]
  rw [wpList] at h
  split at h
  · rename_i hw
    rw [if_pos hw]
    rcases h with h | ⟨_, _, _, h, _⟩
    · refine .inl ?_
      unfold Oper.wp at *
      generalize (execOp a.eval o).run P w = r at *
      cases r with
      | ok n w' =>
        cases n <;> simp only [Oper.upon] at h ⊢ <;>
          first
            | exact h.2
            | exact Calls.mono h (fun e w'' he => by
                cases e <;> first | exact he.2 | exact absurd he.1 (by intro h; cases h) | (obtain ⟨_, _, he, _⟩ := he; cases he))
            | exact Rows.mono h (fun u w'' he => he.2)
      | halt x w' => cases x <;> simp only [Oper.upon] at h ⊢ <;> first | exact h | exact absurd h.1 (by intro h; cases h)
    · cases h
  · rename_i hw
    rw [if_neg hw]
    exact h.2
/-- The beginning: from the world behind the draw. -/
theorem wp_region_M {id : Nat} {a : Act} {w : World} (p : Nat → Bool) (S : World → Prop) (hm : P.follows .mixedOrders = true)
    (h : wpAnyM P .any ops Q S p ops.size (Array.replicate ops.size false) a w.drew) : (Code.region id ops true).wp P Q a w :=
  wp_region_any hm (wpAny_of_heldM _ _ _ _ h)
end
/-! Single operations. -/
theorem run_loadVar_at {P : Program} (w : World) (a : Addr) (ty : TypeId) (cs : List Value) (d : TypeDesc) (hc : ∀ j v, cs[j]? = some v → w.cell? (a.add j) = some v)
    (hu : P.underlying ty = some d) (hd : d.isRow = true) (hi : (P.info? ty).map (·.size) = some cs.length) : (loadVar ty a).run P w = .ok (.agg cs.toArray) w := by
  have hl := run_loadCells_list (P := P) w a cs hc
  obtain ⟨i, hq, hs⟩ := Option.map_eq_some_iff.1 hi
  have hz : (sizeOf ty).run P w = .ok cs.length w := by simp [sizeOf, typeInfo, hq, hs]
  have ha : (isAgg ty).run P w = .ok true w := by
    unfold isAgg
    rw [Sem.run_bind, run_underlying hu, Result.andThen_ok]
    cases d <;> first | rfl | (exact absurd hd (by decide)) | (simp [TypeDesc.isRow] at hd)
  unfold loadVar
  simp only [Sem.run_bind, ha, Result.andThen_ok, if_true, hz, hl, Sem.run_pure]
theorem yieldsIf_load_at {P : Program} {ops : Array Oper} {S : World → Prop} {op : Oper} {a : Act} (hw : Region.wanted op (yielded ops a.tmps) = true) (ty : TypeId) (x : Operand) (ho : op.op = .load ty x)
    (ad : Addr) (hx : a.eval x = .pointer (some ad)) (cs : List Value) (d : TypeDesc) (hS : ∀ w, S w → ∀ j v, cs[j]? = some v → w.cell? (ad.add j) = some v)
    (hu : P.underlying ty = some d) (hd : d.isRow = true) (hi : (P.info? ty).map (·.size) = some cs.length) : YieldsIf P ops S op (.agg cs.toArray) a :=
  .inl ⟨hw, fun w hw' => by
    unfold execOp
    simp only [ho, hx, Instr.loadAt, Instr.sureAddr, Sem.run_bind, Sem.run_pure, Result.andThen_ok, run_loadVar_at w ad ty cs d (hS w hw') hu hd hi]⟩
theorem wpl_op {P : Program} {ops : Array Oper} {Q : Exit → Act → World → Prop} {o : Oper} {rest : List Oper} {a : Act} {w : World} (hw : Region.wanted o (yielded ops a.tmps) = true) (h : Oper.wp P o a w (wpList P ops Q rest) Q) : wpList P ops Q (o :: rest) a w := by
  rw [wpList, if_pos hw]
  exact .inl h
theorem yieldsIf_build_at {P : Program} {ops : Array Oper} {S : World → Prop} {op : Oper} {a : Act} (hw : Region.wanted op (yielded ops a.tmps) = true) (T : TypeId) (parts : Array (Nat × Operand)) (ho : op.op = .build T parts)
    (vals : Array (Nat × Value)) (v : Value) (hp : (parts.map fun (i, x) => (i, a.eval x)) = vals) (hr : ∀ w, (Instr.build T vals).run P w = .ok v w) : YieldsIf P ops S op v a :=
  .inl ⟨hw, fun w _ => by
    subst hp
    unfold execOp
    simp only [ho, Sem.run_bind, hr w, Result.andThen_ok, Sem.run_pure]⟩
theorem wpl_nil {P : Program} {ops : Array Oper} {Q : Exit → Act → World → Prop} {a : Act} {w : World} (h : Q .normal a w) : wpList P ops Q [] a w := h
/-- One cell more is written. -/
theorem put_shift (cs : Array Value) (o : Nat) (v : Value) (r : List Value) (ho : o + (r.length + 1) ≤ cs.size) :
    ((cs.setIfInBounds o v).toList.take (o + 1) ++ (r ++ (cs.setIfInBounds o v).toList.drop (o + 1 + r.length))) = cs.toList.take o ++ (v :: r ++ cs.toList.drop (o + (r.length + 1))) := by
  apply List.ext_getElem?
  intro i
  have hl1 : (List.take (o + 1) (cs.setIfInBounds o v).toList).length = o + 1 := by simp; omega
  have hl2 : (List.take o cs.toList).length = o := by simp; omega
  rw [Array.toList_setIfInBounds] at hl1 ⊢
  rcases Nat.lt_trichotomy i o with hi | hi | hi
  · rw [List.getElem?_append_left (by omega), List.getElem?_append_left (by omega), List.getElem?_take_of_lt (by omega), List.getElem?_take_of_lt hi, List.getElem?_set_ne (by omega)]
  · subst hi
    rw [List.getElem?_append_left (by omega), List.getElem?_take_of_lt (by omega), List.getElem?_append_right (by omega), hl2, Nat.sub_self, List.getElem?_set_self (by simp; omega)]
    rfl
  · have L1 : ∀ R1 : List Value, (List.take (o + 1) (cs.toList.set o v) ++ R1)[i]? = R1[i - (o + 1)]? := fun R1 => by rw [List.getElem?_append_right (by omega), hl1]
    have L2 : ∀ R2 : List Value, (List.take o cs.toList ++ (v :: r ++ R2))[i]? = (r ++ R2)[i - (o + 1)]? := fun R2 => by rw [List.getElem?_append_right (by omega), hl2, show i - o = (i - (o + 1)) + 1 by omega, List.cons_append, List.getElem?_cons_succ]
    rw [L1, L2]
    rcases Nat.lt_or_ge (i - (o + 1)) r.length with hr | hr
    · rw [List.getElem?_append_left hr, List.getElem?_append_left hr]
    · rw [List.getElem?_append_right hr, List.getElem?_append_right hr, List.getElem?_drop, List.getElem?_drop, List.getElem?_set_ne (by omega)]
      congr 1
      omega
theorem foldl_put : ∀ (l : List Value) (k off : Nat) (cs : Array Value), off + k + l.length ≤ cs.size → (l.zipIdx k).foldl (fun cs x => cs.setIfInBounds (off + x.2) x.1) cs = (cs.toList.take (off + k) ++ (l ++ cs.toList.drop (off + k + l.length))).toArray
  | [], k, off, cs, h => by simp
  | v :: r, k, off, cs, h => by
    simp only [List.length_cons] at h
    rw [List.zipIdx_cons, List.foldl_cons, foldl_put r (k + 1) off _ (by rw [Array.size_setIfInBounds]; omega), show off + (k + 1) = off + k + 1 by omega, put_shift cs (off + k) v r (by omega)]
    rfl
theorem fill_one (place : Nat → Option (Nat × Nat)) (cells : Array Value) (i off size : Nat) (v : Value) (rest : List (Nat × Value)) (hp : place i = some (off, size)) (hv : v.cells.size = size) (ho : off + size ≤ cells.size) :
    Instr.fill place cells ((i, v) :: rest) = Instr.fill place (cells.toList.take off ++ (v.cells.toList ++ cells.toList.drop (off + size))).toArray rest := by
  rw [Instr.fill, hp]
  dsimp only
  rw [if_neg (by rw [hv]; simp; omega)]
  congr 1
  have := foldl_put v.cells.toList 0 off cells (by rw [Array.length_toList, hv]; omega)
  rw [Array.length_toList, hv, Nat.add_zero] at this
  rw [← this, ← Array.foldl_toList, Array.toList_zipIdx]
theorem run_slice1 (t e : TypeId) (C : Array Value) (ie : TypeInfo) (z : Value) (hu : Try.prog.underlying t = some (.slice e)) (hie : Try.prog.info? e = some ie) (hz : ie.zero = some z) (h0 : 0 < ie.size) (h1 : ie.size ≤ 1000) (hC : C.size = ie.size) (w : World) :
    (Instr.buildSlice t 1 #[(0, .agg C)]).run Try.prog w = .ok (.slice (some ⟨w.heap.size, 0, none⟩) 1 1) (w.alloc (.cells C e)) := by
  refine run_buildSlice w t e 1 _ C ie z hu hie hz (by omega) (by omega) ?_
  have := fill_one (fun i => some (i * ie.size, ie.size)) ((Array.range (1 * ie.size)).map (z.cells[· % z.cells.size]!)) 0 0 ie.size (.agg C) [] (by simp) hC (by simp)
  refine this.trans ?_
  rw [Instr.fill, List.drop_of_length_le (by simp)]
  simp [Value.cells]
theorem op_slice1 {P : Program} {Q : Exit → Act → World → Prop} {o : Oper} {a : Act} {w w1 : World} {K : Act → World → Prop} (t : TypeId) (n : Nat) (parts : Array (Nat × Operand)) (ho : o.op = .buildSlice t n parts)
    (vals : Array (Nat × Value)) (v : Value) (hp : (parts.map fun (i, x) => (i, a.eval x)) = vals) (hr : (Instr.buildSlice t n vals).run P w = .ok v w1) (h : K (a.put o.dst v) w1) : Oper.wp P o a w K Q := by
  subst hp
  unfold Oper.wp execOp
  simp only [ho, Sem.run_bind, hr, Result.andThen_ok]
  exact h
end Go.Proofs.Ytcegphnhohpegaa
