/- The walk of a disk's Load. -/
import Derived.Test.YtcegphnhohpegaaD10
import Derived.Laws.CopyOwn
set_option linter.unusedVariables false
set_option linter.unusedSimpArgs false
namespace Go.Proofs.Ytcegphnhohpegaa
open Go.RowKit

/-- The j-th sector of an image, with zeros behind it. -/
def sgL (xs : List UInt8) (j : Nat) : List UInt8 := (xs.drop (64 * j)).take 64 ++ List.replicate (64 - ((xs.drop (64 * j)).take 64).length) 0
/-- The first j sectors of an image. -/
def loadL (xs : List UInt8) : Nat → List UInt8
  | 0 => []
  | j + 1 => loadL xs j ++ sgL xs j
theorem sgL_len (xs : List UInt8) (j : Nat) : (sgL xs j).length = 64 := by
  unfold sgL
  rw [List.length_append, List.length_replicate, List.length_take]
  omega
theorem loadL_len (xs : List UInt8) : ∀ j, (loadL xs j).length = j * 64
  | 0 => rfl
  | j + 1 => by rw [loadL, List.length_append, loadL_len xs j, sgL_len]; omega
/-- How many sectors an image has. -/
def cntL (kn : Nat) (lim : Int) : Nat := min ((kn + 63) / 64) lim.toNat
theorem copied_z64 (s0 : List UInt8) (h : s0.length ≤ 64) : (z64.toList.take 0 ++ (u8v s0 ++ z64.toList.drop (0 + (u8v s0).length))).toArray = (u8v (s0 ++ List.replicate (64 - s0.length) 0)).toArray := by
  rw [List.take_zero, List.nil_append, Nat.zero_add, u8v_length, u8v_append]
  congr 2
  show (u8v (List.replicate 64 0)).drop s0.length = _
  rw [u8v, ← List.map_drop, List.drop_replicate]
  rfl
theorem setRow_row (w : World) (g : Nat) (cs cs' : Array Value) (t : TypeId) (fr : Nat × Nat) (h : w.heap[g]? = some (.cells cs t fr)) : (w.setRow g cs').heap[g]? = some (.cells cs' t fr) := setRow_heap _ _ _ _ _ _ h
def LoadQ (w : World) (g : Nat) (j : Nat) (l : Int) (xs : List UInt8) (w' : World) : Prop := ∃ A c, DM w' w.heap.size g A j c none 0 0 ⟨l, loadL xs j, [], 0, -1, false⟩ ∧ Below w.heap.size w w'
/-- A disk that has one sector more, from a world behind an alloc and a draw. -/
theorem DM.push {w w1 : World} {base g n c m e : Nat} {A B A2 : Option Addr} {c2 : Nat} {d : DV} {s : List UInt8} (h : DM w base g A n c B m e d) (hg : Grw A w w1) (hO : Oc w1 base 54 64 A2 (n + 1) c2 (u8v d.l ++ u8v s)) (hat : A2 = A ∨ A2 = some ⟨w.heap.size, 0, none⟩) :
    w1.heap[g]? = some (.cells #[.int .i64 d.limit, .slice A n c, .slice B m e, .int .i64 d.ops, .int .i64 d.fuse, .bool d.down] 52) ∧
    DM (w1.setCell ⟨g, 1, none⟩ (.slice A2 (n + 1) c2)) base g A2 (n + 1) c2 B m e { d with l := d.l ++ s } ∧ Fr g A B w (w1.setCell ⟨g, 1, none⟩ (.slice A2 (n + 1) c2)) ∧ New w A A2 := by
  have hgl := (Array.getElem?_eq_some_iff.1 h.row).1
  have ho := (OnlyB.refl g w1).set 1 (.slice A2 (n + 1) c2)
  have hr1 := (hg.block g hgl (fun q => h.na g q rfl)).trans h.row
  have hBl : ∀ j, B = some ⟨j, 0, none⟩ → j < w.heap.size := fun j e => by
    rcases h.sr.addr with q | ⟨i, q, _, q2⟩
    · rw [q] at e
      cases e
    · rw [q] at e
      injection e with e
      injection e with e
      omega
  have na2 : ∀ k, A2 = some ⟨k, 0, none⟩ → k ≠ g := fun k q => by
    rcases hat with rfl | rfl
    · exact h.na k q
    · injection q with q
      injection q with q
      omega
  have ab2 : ∀ k j, A2 = some ⟨k, 0, none⟩ → B = some ⟨j, 0, none⟩ → k ≠ j := fun k j q r => by
    rcases hat with rfl | rfl
    · exact h.ab k j q r
    · injection q with q
      injection q with q
      have := hBl j r
      omega
  have hnew : New w A A2 := hat.elim (fun q => .inl q) (fun q => .inr fun i e => by rw [q] at e; injection e with e; injection e with e; omega)
  refine ⟨hr1, ⟨heap_setCell_same w1 g 1 _ _ _ hr1, h.lo, ?_, ?_, na2, h.nb, ab2⟩, (Fr.of_grw hg).trans (Fr.of_only ho) (A1 := A2) (B1 := B) hnew (.inl rfl), hnew⟩
  · rw [u8v_append]
    exact hO.only ho na2
  · exact (h.sr.grw hg (fun i j q r => (h.ab j i r q).symm)).only ho h.nb
set_option maxHeartbeats 8000000 in
set_option maxRecDepth 100000 in
theorem load_any (K : Option Addr) (kn kc : Nat) (xs : List UInt8) (limit : Int) (w : World) (hb : Bs w K kn kc xs) (hkn : kn ≤ 1000000) :
    Calls Try.prog 9 #[.slice K kn kc, .int .i64 limit] w fun e' w' => ∃ g, e' = .returned (.pointer (some ⟨g, 0, none⟩)) ∧ LoadQ w g (cntL kn (limI limit)) (limI limit) xs w' := by
  have HB := Aside0.mk hb
  obtain ⟨cnt, hcnt⟩ : ∃ q, cntL kn (limI limit) = q := ⟨_, rfl⟩
  obtain ⟨L, hL⟩ : ∃ q, limI limit = q := ⟨_, rfl⟩
  have hL0 : 0 ≤ L ∧ L ≤ 65536 := by rw [← hL]; unfold limI; omega
  rw [hL] at hcnt
  rw [hL, hcnt]
  have HC := Aside0.mk hcnt
  replace hL := Aside0.mk hL
  have hkc := hb.le
  clear hb hcnt
  go_enter Try.func9, Try.ntmps9
  go_wp2_with (go_at_call 22; refine (new_any limit w).mono ?_; rintro e1 w1 ⟨g, rfl, hM, hBl⟩; rw [hL.out] at hM; (have HM := Aside0.mk (And.intro hM hBl)); clear hM hBl)
  go_loopg [6] cnt (fun gk v wr => ∃ (j : Nat) (A1 : Option Addr) (c1 : Nat), Aside (gk + j = cnt) ∧ v = .int .i64 ((64 * j : Nat) : Int) ∧ Aside0 (DM wr w.heap.size g A1 j c1 none 0 0 ⟨L, loadL xs j, [], 0, -1, false⟩ ∧ Below w.heap.size w wr))
  case atStart => exact ⟨0, none, 0, rfl, rfl, ⟨HM.out.1, HM.out.2⟩⟩
  case round =>
    obtain ⟨j, A1, c1, hk, rfl, hI⟩ := hrel
    have hjc : j ≤ cnt := by have := hk.out; omega
    have hcd : cnt = min ((kn + 63) / 64) L.toNat := HC.out.symm
    obtain ⟨z0, z1, z2, z3, z4, z5⟩ := row6_cells hI.out.1.row
    obtain ⟨p, hp⟩ : ∃ p, 64 * j = p := ⟨_, rfl⟩
    rw [hp]
    rcases Nat.lt_or_ge j cnt with hlt | hge
    · have d1 : decide ((p : Int) < (kn : Int)) = true := decide_eq_true (by omega)
      have d0 : decide (p < kn) = true := decide_eq_true (by omega)
      have d2 : decide ((j : Int) < L) = true := decide_eq_true (by omega)
      go_upto_region 3 with fail
      go_quiet (fail)
      have HI1 := Aside0.mk (And.intro (hI.out.1.below (below_drawn (Below.refl _ wr) nq)) (below_then hI.out.2 hI.out.2.size (below_drawn (Below.refl _ wr) nq)))
      obtain ⟨wq, hwq⟩ : ∃ X, wr.drewN nq = X := ⟨_, rfl⟩
      rw [hwq] at HI1 ⊢
      clear hwq z0 z1 z2 z3 z4 z5 d0 d1 d2
      have hz := zero54
      go_upto_region 6 with fail
      clear hz
      obtain ⟨Wa, hWa⟩ : ∃ X, (wq.alloc (.cells z64 54)).drew = X := ⟨_, rfl⟩
      have hbA : Below wq.heap.size wq Wa := by rw [← hWa]; exact below_drew ((Below.refl _ wq).alloc (Nat.le_refl _) _)
      have hrN : Wa.heap[wq.heap.size]? = some (.cells z64 54 (0, 0)) := by rw [← hWa]; exact heap_alloc_new wq _
      obtain ⟨s0, hs0⟩ : ∃ s, (xs.drop p).take 64 = s := ⟨_, rfl⟩
      have hs0l : s0.length = Nat.min (kn - p) 64 := by
        rw [← hs0, List.length_take, List.length_drop, HB.out.len]
        exact Nat.min_comm _ _
      have hbw : Bs Wa K kn kc xs := HB.out.below (below_then HI1.out.2 HI1.out.2.size hbA)
      have hbs := hbw.drop p (by omega)
      obtain ⟨ak, hak, hx⟩ := hbs.cells (by omega)
      have hsrc : ∀ (i : Nat) (v : Value), (u8v s0)[i]? = some v → Wa.cell? (ak.add i) = some v := fun i v hv => by
        have hi : i < s0.length := by
          have := (List.getElem?_eq_some_iff.1 hv).1
          rwa [u8v_length] at this
        rw [u8v_get s0 i hi] at hv
        injection hv with hv
        have hi2 : i < kn - p := by rw [hs0l] at hi; exact Nat.lt_of_lt_of_le hi (Nat.min_le_left _ _)
        have hi3 : i < 64 := by rw [hs0l] at hi; exact Nat.lt_of_lt_of_le hi (Nat.min_le_right _ _)
        have := hx i hi2
        rw [this, ← hv, ← hs0]
        simp [b8, List.getD_eq_getElem?_getD, hi3]
      have t1 : ∀ W : World, (Instr.slice 22 (.slice K kn kc) (some (.int .i64 (p : Int))) none none).run Try.prog W = .ok (.slice (some ak) (kn - p) (kc - p)) W := fun W => by
        rw [sl8_l W K kn kc .i64 (p : Int) (by omega) (by omega), show ((p : Int)).toNat = p by omega, hak]
      obtain ⟨sg, hsg⟩ : ∃ s, sgL xs j = s := ⟨_, rfl⟩
      have hs64 : sg.length = 64 := by rw [← hsg]; exact sgL_len _ _
      have hcp := copied_z64 s0 (by rw [hs0l]; exact Nat.min_le_right _ _)
      have hsg2 : s0 ++ List.replicate (64 - s0.length) 0 = sg := by rw [← hsg, ← hs0, ← hp]; rfl
      rw [hsg2] at hcp
      have HCP := Aside0.mk hcp
      have HSRC := Aside0.mk (And.intro hsrc (And.intro hrN hs0l))
      have HSG := Aside0.mk hsg
      clear hsrc hrN hs0l hcp hx hbs hbw hak hsg hsg2 hs0
      refine wp_region_M (fun j => false) (fun _ => True) (by kernel_rfl) ?_
      refine wpAnyM_take0 (i := 0) (v := ?_) (by simp only [List.getElem?_toArray, List.getElem?_cons_succ, List.getElem?_cons_zero]; rfl) (by kernel_rfl) (by kernel_rfl) (by kernel_rfl) (by rfl) (by exact fun _ _ _ h => h) (Or.inl ⟨by rfl, ?_⟩) ?_
      rotate_left
      · (intro w' _; go_simp; try with_reducible rfl)
      try simp only [Act.put, List.setIfInBounds_toArray, List.set_cons_zero, List.set_cons_succ]
      refine wpAnyM_take0 (i := 1) (v := ?_) (by simp only [List.getElem?_toArray, List.getElem?_cons_succ, List.getElem?_cons_zero]; rfl) (by kernel_rfl) (by kernel_rfl) (by kernel_rfl) (by rfl) (by exact fun _ _ _ h => h) (Or.inl ⟨by rfl, ?_⟩) ?_
      rotate_left
      · (intro w' _; go_simp; try with_reducible rfl)
      try simp only [Act.put, List.setIfInBounds_toArray, List.set_cons_zero, List.set_cons_succ]
      refine wpAnyM_take0 (i := 2) (v := ?_) (by simp only [List.getElem?_toArray, List.getElem?_cons_succ, List.getElem?_cons_zero]; rfl) (by kernel_rfl) (by kernel_rfl) (by kernel_rfl) (by rfl) (by exact fun _ _ _ h => h) (Or.inl ⟨by rfl, ?_⟩) ?_
      rotate_left
      · (intro w' _; go_simp; try with_reducible rfl)
      try simp only [Act.put, List.setIfInBounds_toArray, List.set_cons_zero, List.set_cons_succ]
      refine wpAnyM_take0 (i := 3) (v := ?_) (by simp only [List.getElem?_toArray, List.getElem?_cons_succ, List.getElem?_cons_zero]; rfl) (by kernel_rfl) (by kernel_rfl) (by kernel_rfl) (by rfl) (by exact fun _ _ _ h => h) (Or.inl ⟨by rfl, ?_⟩) ?_
      rotate_left
      · (intro w' _; go_simp; try with_reducible rfl)
      try simp only [Act.put, List.setIfInBounds_toArray, List.set_cons_zero, List.set_cons_succ]
      refine wpAnyM_one (i := 4) (by kernel_rfl) (by simp only [List.getElem?_toArray, List.getElem?_cons_succ, List.getElem?_cons_zero]; rfl) ?_
      rw [hWa]
      refine wpList_copy_own (by rfl) (.tmp 28) (.tmp 31) _ _ (by rfl) 5 Try.underlying22 (by kernel_rfl) wq.heap.size 0 64 64 ak (kn - p) (kc - p) (by rfl) (by rfl) z64 54 HSRC.out.2.1 (u8v s0) (by rw [u8v_length]; exact HSRC.out.2.2) HSRC.out.1 (by rw [u8v_length, HSRC.out.2.2, Nat.zero_add]; exact Nat.min_le_right (kn - p) 64) (u8v_one s0) ?_
      rw [HCP.out]
      refine wpl_nil ⟨rfl, fun _ => trivial, ?_⟩
      try simp only [Act.put, List.setIfInBounds_toArray, List.set_cons_zero, List.set_cons_succ]
      refine wpAnyM_done (by kernel_rfl) ?_ _
      obtain ⟨Wb, hWb⟩ : ∃ X, Wa.setRow wq.heap.size (u8v sg).toArray = X := ⟨_, rfl⟩
      have HRB := Aside0.mk (show Wb.heap[wq.heap.size]? = some (.cells (u8v sg).toArray 54 (0, 0)) by rw [← hWb]; exact setRow_row _ _ _ _ _ _ HSRC.out.2.1)
      have hbB : Below wq.heap.size wq Wb := by rw [← hWb]; exact below_setRow hbA (Nat.le_refl _) _
      have HDB := Aside0.mk (HI1.out.1.below hbB)
      have HBB := Aside0.mk (below_then HI1.out.2 HI1.out.2.size hbB)
      rw [hWb]
      clear hWb hbB t1 hbA
      obtain ⟨W1, hW1⟩ : ∃ X, Wb.drew.alloc (.cells (u8v sg).toArray 54) = X := ⟨_, rfl⟩
      have hbel1 : Below Wb.heap.size Wb W1 := by rw [← hW1]; exact (below_drew (Below.refl _ Wb)).alloc (Nat.le_refl _) _
      have HD1 := Aside0.mk (HDB.out.below hbel1)
      have HN1 := Aside0.mk (show W1.rangeAt Wb.drew.heap.size 0 (u8v sg) by rw [← hW1]; exact lit_range Wb.drew _ _ _ rfl)
      have HT := Aside0.mk (show (Instr.buildSlice 49 1 #[(0, .agg (u8v sg).toArray)]).run Try.prog Wb.drew = .ok (.slice (some ⟨Wb.drew.heap.size, 0, none⟩) 1 1) W1 from by
        obtain ⟨i0, hi, hzz⟩ := Option.map_eq_some_iff.1 info54
        simp only [Prod.mk.injEq] at hzz
        rw [← hW1]
        refine run_slice1 49 54 _ i0 (.agg z64) Try.underlying49 hi hzz.1 (by rw [hzz.2.1]; omega) (by rw [hzz.2.1]; omega) ?_ Wb.drew
        rw [hzz.2.1, List.size_toArray, u8v_length, hs64])
      have HI5 := Aside0.mk (show (Try.prog.info? 54).map (·.size) = some (u8v sg).length from by rw [u8v_length, hs64]; kernel_rfl)
      have hsc : ∀ W : World, W.heap[wq.heap.size]? = some (.cells (u8v sg).toArray 54 (0, 0)) → ∀ i v, (u8v sg)[i]? = some v → W.cell? ((⟨wq.heap.size, 0, none⟩ : Addr).add i) = some v := fun W hW i v hv => by
        rw [add_plain, cell_of_row _ _ _ _ _ _ hW]
        simpa using hv
      have HSC := Aside0.mk hsc
      have z1 := (row6_cells HDB.out.row).2.1
      have HS0 := Aside0.mk (show Wb.drew.heap[wq.heap.size]? = some (.cells (u8v sg).toArray 54 (0, 0)) ∧ Wb.drew.cell? ⟨g, 1, none⟩ = some (.slice A1 j c1) from ⟨HRB.out, z1⟩)
      have HS1 := Aside0.mk (show W1.heap[wq.heap.size]? = some (.cells (u8v sg).toArray 54 (0, 0)) ∧ W1.cell? ⟨g, 1, none⟩ = some (.slice A1 j c1) from ⟨(hbel1.block _ (Array.getElem?_eq_some_iff.1 HRB.out).1).trans HRB.out, cell_below hbel1 z1⟩)
      have HB1 := Aside0.mk (below_then HBB.out HBB.out.size hbel1)
      clear hsc z1 hbel1
      go_upto_region 7 with fail
      refine wp_region_M (fun j => j == 4 || j == 5 || j == 6) (fun w' => w'.heap[wq.heap.size]? = some (.cells (u8v sg).toArray 54 (0, 0)) ∧ w'.cell? ⟨g, 1, none⟩ = some (.slice A1 j c1)) (by kernel_rfl) ?_
      refine wpAnyM_take0 (i := 0) (v := ?_) (by simp only [List.getElem?_toArray, List.getElem?_cons_succ, List.getElem?_cons_zero]; rfl) (by kernel_rfl) (by kernel_rfl) (by kernel_rfl) (by rfl) (by exact fun _ _ _ h => h) (Or.inl ⟨by rfl, ?_⟩) ?_
      rotate_left
      · (intro w' _; go_simp; try with_reducible rfl)
      try simp only [Act.put, List.setIfInBounds_toArray, List.set_cons_zero, List.set_cons_succ]
      refine wpAnyM_take0 (i := 1) (v := ?_) (by simp only [List.getElem?_toArray, List.getElem?_cons_succ, List.getElem?_cons_zero]; rfl) (by kernel_rfl) (by kernel_rfl) (by kernel_rfl) (by rfl) (by exact fun _ _ _ h => h) (Or.inl ⟨by rfl, ?_⟩) ?_
      rotate_left
      · (intro w' _; go_simp; try with_reducible rfl)
      try simp only [Act.put, List.setIfInBounds_toArray, List.set_cons_zero, List.set_cons_succ]
      refine wpAnyM_take0 (i := 2) (v := ?_) (by simp only [List.getElem?_toArray, List.getElem?_cons_succ, List.getElem?_cons_zero]; rfl) (by kernel_rfl) (by kernel_rfl) (by kernel_rfl) (by rfl) (by exact fun _ _ _ h => h) (Or.inl ⟨by rfl, ?_⟩) ?_
      rotate_left
      · (intro w' _; go_simp; try with_reducible rfl)
      try simp only [Act.put, List.setIfInBounds_toArray, List.set_cons_zero, List.set_cons_succ]
      refine wpAnyM_take0 (i := 3) (v := ?_) (by simp only [List.getElem?_toArray, List.getElem?_cons_succ, List.getElem?_cons_zero]; rfl) (by kernel_rfl) (by kernel_rfl) (by kernel_rfl) (by rfl) (by exact fun _ _ _ h => h) (Or.inl ⟨by rfl, ?_⟩) ?_
      rotate_left
      · (intro w' _; go_simp; try with_reducible rfl)
      try simp only [Act.put, List.setIfInBounds_toArray, List.set_cons_zero, List.set_cons_succ]
      refine wpAnyM_take (i := 5) (v := .agg (u8v sg).toArray) (by simp only [List.getElem?_toArray, List.getElem?_cons_succ, List.getElem?_cons_zero]; rfl) (by kernel_rfl) (by kernel_rfl) (by kernel_rfl) (by kernel_rfl) (by exact fun _ _ _ h => h) (yieldsIf_load_at (by rfl) 54 _ rfl ⟨wq.heap.size, 0, none⟩ rfl (u8v sg) _ (fun w' hw' => HSC.out w' hw'.1) Try.underlying54 rfl HI5.out) HS0.out ?_
      try simp only [Act.put, List.setIfInBounds_toArray, List.set_cons_zero, List.set_cons_succ]
      refine wpAnyM_take (i := 4) (v := .slice A1 j c1) (by simp only [List.getElem?_toArray, List.getElem?_cons_succ, List.getElem?_cons_zero]; rfl) (by kernel_rfl) (by kernel_rfl) (by kernel_rfl) (by kernel_rfl) (by exact fun _ _ _ h => h) (Or.inl ⟨by rfl, fun w' hSw => by obtain ⟨_, hcc⟩ := hSw; go_simp⟩) HS0.out ?_
      try simp only [Act.put, List.setIfInBounds_toArray, List.set_cons_zero, List.set_cons_succ]
      refine wpAnyM_one (i := 6) (by kernel_rfl) (by simp only [List.getElem?_toArray, List.getElem?_cons_succ, List.getElem?_cons_zero]; rfl) ?_
      with_reducible refine wpl_op (rest := []) ?_ (op_slice1 (w1 := W1) 49 1 #[(0, .tmp 38)] ?_ #[(0, .agg (u8v sg).toArray)] (.slice (some ⟨Wb.drew.heap.size, 0, none⟩) 1 1) ?_ ?_ ?_)
      · rfl
      · rfl
      · (simp only [List.map_toArray, List.map_cons, List.map_nil]; rfl)
      · exact HT.out
      refine wpl_nil ⟨rfl, fun _ => HS1.out, ?_⟩
      try simp only [Act.put, List.setIfInBounds_toArray, List.set_cons_zero, List.set_cons_succ]
      refine wpAnyM_one (i := 7) (by kernel_rfl) (by simp only [List.getElem?_toArray, List.getElem?_cons_succ, List.getElem?_cons_zero]; rfl) ?_
      refine wpl_oc w.heap.size (by rfl) (.tmp 37) (.tmp 39) 49 54 (.agg z64) 64 64 (by rfl) Try.underlying49 info54 rfl (by omega) (by omega) (by omega) A1 j c1 Wb.drew.heap.size (u8v (loadL xs j)) (u8v sg) (by rfl) (by rfl) HD1.out.sl (by rw [u8v_length, hs64]) HN1.out (u8v_one _) (Nat.le_of_lt HD1.out.sz) (by omega) ?_
      intro A2 c2 w1 hO hG hA
      have HW := Aside0.mk (HD1.out.push hG.out hO.out hA.out)
      clear hO
      refine wpl_nil ⟨rfl, fun q => absurd q (by decide), ?_⟩
      try simp only [Act.put, List.setIfInBounds_toArray, List.set_cons_zero, List.set_cons_succ]
      refine wpAnyM_take0 (i := 8) (v := ?_) (by simp only [List.getElem?_toArray, List.getElem?_cons_succ, List.getElem?_cons_zero]; rfl) (by kernel_rfl) (by kernel_rfl) (by kernel_rfl) (by rfl) (by exact fun _ _ _ h => h) (Or.inl ⟨by rfl, ?_⟩) ?_
      rotate_left
      · (intro w' _; go_simp; try with_reducible rfl)
      try simp only [Act.put, List.setIfInBounds_toArray, List.set_cons_zero, List.set_cons_succ]
      refine wpAnyM_take0 (i := 9) (v := ?_) (by simp only [List.getElem?_toArray, List.getElem?_cons_succ, List.getElem?_cons_zero]; rfl) (by kernel_rfl) (by kernel_rfl) (by kernel_rfl) (by rfl) (by exact fun _ _ _ h => h) (Or.inl ⟨by rfl, ?_⟩) ?_
      rotate_left
      · (intro w' _; go_simp; try with_reducible rfl)
      try simp only [Act.put, List.setIfInBounds_toArray, List.set_cons_zero, List.set_cons_succ]
      refine wpAnyM_one (i := 10) (by kernel_rfl) (by simp only [List.getElem?_toArray, List.getElem?_cons_succ, List.getElem?_cons_zero]; rfl) ?_
      obtain ⟨y0, y1, y2, y3, y4, y5⟩ := row6_cells HW.out.1
      have yf := fun j => Go.Joins.unfrozen_of_block HW.out.1 j
      go_wp2_with fail
      refine wpAnyM_done (by kernel_rfl) ?_ _
      clear y0 y1 y2 y3 y4 y5 yf
      have iw : IntKind.i64.wrap ((p : Int) + 64) = ((64 * (j + 1) : Nat) : Int) := by rw [IntWalk.i64_in _ (by omega)]; omega
      go_wp2_with fail
      go_roundg (cnt - (j + 1))
      case measure => have := hk.out; omega
      case rel =>
        refine ⟨j + 1, A2, c2, (by show cnt - (j + 1) + (j + 1) = cnt; omega), by go_num, ⟨?_, ?_⟩⟩
        · have := HW.out.2.1
          rw [show loadL xs (j + 1) = loadL xs j ++ sg by rw [← HSG.out]; rfl]
          exact this
        · exact HW.out.2.2.1.below HB1.out HD1.out.lo (fun k => HD1.out.sl.lo k) (fun k => HD1.out.sr.lo k) HB1.out.size
    · obtain rfl : cnt = j := by omega
      by_cases hp2 : p < kn
      · have d1 : decide ((p : Int) < (kn : Int)) = true := decide_eq_true (by omega)
        have d0 : decide (p < kn) = true := decide_eq_true (by omega)
        have d2 : decide ((cnt : Int) < L) = false := decide_eq_false (by omega)
        clear hcd
        go_upto_region 3 with fail
        go_quiet (fail)
        go_wp2_with fail
        go_ret
        exact ⟨g, rfl, A1, c1, hI.out.1.below (below_drawn (Below.refl _ wr) nq), below_then hI.out.2 hI.out.2.size (below_drawn (Below.refl _ wr) nq)⟩
      · have d1 : decide ((p : Int) < (kn : Int)) = false := decide_eq_false (by omega)
        have d0 : decide (p < kn) = false := decide_eq_false (by omega)
        clear hcd
        go_upto_region 3 with fail
        go_quiet (fail)
        go_wp2_with fail
        go_ret
        exact ⟨g, rfl, A1, c1, hI.out.1.below (below_drawn (Below.refl _ wr) nq), below_then hI.out.2 hI.out.2.size (below_drawn (Below.refl _ wr) nq)⟩
end Go.Proofs.Ytcegphnhohpegaa
