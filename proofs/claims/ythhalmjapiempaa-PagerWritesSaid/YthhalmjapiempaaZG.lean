/- The walk of a disk's Write, where it writes. The walk of a disk's Load. The walk of a disk's Read. A disk with what stands beside it: one contract a function, in plain terms. -/
import Derived.Test.YthhalmjapiempaaZF
import Derived.Test.YthhalmjapiempaaZ1
import Derived.Great.BuildSlice
import Derived.Laws.CopyOwn
set_option linter.unusedVariables false
set_option linter.unusedSimpArgs false
namespace Go.Proofs.Ythhalmjapiempaa
open Go.RowKit

/-- The sectors of so many bytes, from a place on. -/
def segs (at_ : Nat) (b : List UInt8) : Nat → List (Nat × List UInt8)
  | 0 => []
  | k + 1 => segs at_ b k ++ [(at_ + k, (b.drop (k * 64)).take 64)]
/-- Why a Write says no at once; 0: it does not. -/
def wrE (d : DV) (n : Nat) (at_ : Int) (len : Nat) : Int :=
  if d.down = true then 10 else if len / 64 = 0 ∨ len % 64 ≠ 0 then 1 else if hasB n at_ ((len / 64 : Nat) : Int) = true then 0 else 11
theorem rem64 (n : Nat) : ((n : Int)).tmod 64 = ((n % 64 : Nat) : Int) := (Int.ofNat_tmod n 64).symm
theorem div64 (n : Nat) : ((n : Int)).tdiv 64 = ((n / 64 : Nat) : Int) := (Int.ofNat_tdiv n 64).symm
theorem run_build59 (x : Int) (s : List UInt8) (h : s.length = 64) (w : World) : (Instr.build 114 #[(0, .int .i64 x), (1, .agg (u8v s).toArray)]).run Try.prog w = .ok (.agg (.int .i64 x :: u8v s).toArray) w := by
  refine run_build w 114 _ _ ?_
  have e : Try.prog.built 114 [(0, .int .i64 x), (1, .agg (u8v s).toArray)] = Instr.fill (#[(0, 1), (1, 64)][·]?) z65 [(0, .int .i64 x), (1, .agg (u8v s).toArray)] := by kernel_rfl
  have hz : z65.size = 65 := by kernel_rfl
  refine e.trans ?_
  rw [fill_one _ _ 0 0 1 _ _ rfl rfl (by omega), fill_one _ _ 1 1 64 _ _ rfl (by show (u8v s).toArray.size = 64; rw [List.size_toArray, u8v_length, h]) (by simp [Value.cells, hz])]
  rw [Instr.fill]
  have hl : (z65.toList.drop 1).length = 64 := by rw [List.length_drop, Array.length_toList, hz]
  simp [Value.cells, hl]
  exact Nat.le_of_eq hz
/-- The cells of a segment. -/
theorem seg_one (x : Int) (s : List UInt8) : ∀ v, v ∈ Value.int .i64 x :: u8v s → v.oneCell' = true := fun v hv => by
  rcases List.mem_cons.1 hv with rfl | hv
  · rfl
  · exact u8v_one _ v hv
theorem wrv_snoc (r : List (Nat × List UInt8)) (p : Nat) (s : List UInt8) : wrv (r ++ [(p, s)]) = wrv r ++ (.int .i64 (p : Int) :: u8v s) := by
  unfold wrv
  rw [List.flatMap_append]
  simp
theorem New.mono {w w1 : World} {A A1 : Option Addr} (h : New w1 A A1) (hs : w.heap.size ≤ w1.heap.size) : New w A A1 := h.imp id fun k i e => by have := k i e; omega
theorem DM.sz {w : World} {base g n c m e : Nat} {A B : Option Addr} {d : DV} (h : DM w base g A n c B m e d) : base < w.heap.size := by
  have := (Array.getElem?_eq_some_iff.1 h.row).1
  have := h.lo
  omega
/-- A disk of which one write more is held. -/
theorem DM.wrote {w w1 : World} {base g n c m e : Nat} {A B B2 : Option Addr} {e2 : Nat} {d : DV} (p : Nat × List UInt8) {vs : List Value} (h : DM w base g A n c B m e d) (hg : Grw B w w1) (hO : Oc w1 base 114 65 B2 (m + 1) e2 (wrv d.row ++ vs)) (hat : B2 = B ∨ B2 = some ⟨w.heap.size, 0, none⟩) (hp : wrv (d.row ++ [p]) = wrv d.row ++ vs) :
    w1.heap[g]? = some (.cells #[.int .i64 d.limit, .slice A n c, .slice B m e, .int .i64 d.ops, .int .i64 d.fuse, .bool d.down] 86) ∧
    DM (w1.setCell ⟨g, 2, none⟩ (.slice B2 (m + 1) e2)) base g A n c B2 (m + 1) e2 { d with row := d.row ++ [p] } ∧ Fr g A B w (w1.setCell ⟨g, 2, none⟩ (.slice B2 (m + 1) e2)) ∧ New w B B2 := by
  have hgl := (Array.getElem?_eq_some_iff.1 h.row).1
  have ho := (OnlyB.refl g w1).set 2 (.slice B2 (m + 1) e2)
  have hr1 := (hg.block g hgl (fun q => h.nb g q rfl)).trans h.row
  have hAl : ∀ j, A = some ⟨j, 0, none⟩ → j < w.heap.size := fun j e => by
    rcases h.sl.addr with q | ⟨i, q, _, q2⟩
    · rw [q] at e
      cases e
    · rw [q] at e
      injection e with e
      injection e with e
      omega
  have nb2 : ∀ k, B2 = some ⟨k, 0, none⟩ → k ≠ g := fun k q => by
    rcases hat with rfl | rfl
    · exact h.nb k q
    · injection q with q
      injection q with q
      omega
  have ab2 : ∀ k j, A = some ⟨k, 0, none⟩ → B2 = some ⟨j, 0, none⟩ → k ≠ j := fun k j q r => by
    rcases hat with rfl | rfl
    · exact h.ab k j q r
    · injection r with r
      injection r with r
      have := hAl k q
      omega
  have hnew : New w B B2 := hat.elim (fun q => .inl q) (fun q => .inr fun i e => by rw [q] at e; injection e with e; injection e with e; omega)
  refine ⟨hr1, ⟨heap_setCell_same w1 g 2 _ _ _ hr1, h.lo, ?_, ?_, h.na, nb2, ab2⟩, (Fr.of_grw' hg).trans (Fr.of_only ho) (A1 := A) (B1 := B2) (.inl rfl) hnew, hnew⟩
  · exact (h.sl.grw hg (fun i j q r => h.ab i j q r)).only ho h.na
  · rw [hp]
    exact hO.only ho nb2
def SegS (ak : Addr) (sg : List UInt8) (w : World) : Prop := ∀ i v, (u8v sg)[i]? = some v → w.cell? (ak.add i) = some v
theorem SegS.blk {ak : Addr} {sg : List UInt8} {w w1 : World} (h : SegS ak sg w) (hb : w1.heap[ak.block]? = w.heap[ak.block]?) : SegS ak sg w1 := fun i v hv => by
  rw [← h i v hv]
  exact World.cell?_of_block (by rw [add_block]; exact hb)
/-- A disk that has written: its new row, an op more. -/
def WriteQ (w : World) (base g : Nat) (A : Option Addr) (n c : Nat) (B : Option Addr) (m : Nat) (d : DV) (at_ : Int) (b : List UInt8) (q : Nat) (w' : World) : Prop :=
  ∃ B1 e1, DM w' base g A n c B1 (m + q) e1 (opD { d with row := d.row ++ segs at_.toNat b q }) ∧ Fr g A B w w' ∧ New w B B1
set_option maxHeartbeats 8000000 in
set_option maxRecDepth 100000 in
theorem write_go (base g : Nat) (A : Option Addr) (n c : Nat) (B : Option Addr) (m e : Nat) (d : DV) (at_ : Int) (K : Option Addr) (kn kc : Nat) (b : List UInt8) (w : World) (h : DM w base g A n c B m e d) (ok : d.ok n) (hb : Bs w K kn kc b) (hE : wrE d n at_ kn = 0) (hKb : ∀ a, K = some a → a.block ≠ g ∧ A ≠ some ⟨a.block, 0, none⟩ ∧ B ≠ some ⟨a.block, 0, none⟩) (hmk : m + kn ≤ 1000000)
    (h0 : 0 ≤ d.ops) (h1 : d.ops ≤ 1000000) (h3 : d.fuse ≤ 9223372036854775807) :
    Calls Try.prog 76 #[.pointer (some ⟨g, 0, none⟩), .int .i64 at_, .slice K kn kc] w fun e' w' => e' = .returned (.int .i64 (if d.fuse = 0 then 10 else 0)) ∧ WriteQ w base g A n c B m d at_ b (kn / 64) w' := by
  obtain ⟨c0, c1, c2, c3, c4, c5⟩ := row6_cells h.row
  have hdn : d.down = false := by
    cases q : d.down with
    | false => rfl
    | true => unfold wrE at hE; rw [if_pos q] at hE; exact absurd hE (by decide)
  have hm0 : ¬ (kn / 64 = 0 ∨ kn % 64 ≠ 0) := fun q => by
    unfold wrE at hE
    rw [if_neg (by rw [hdn]; decide), if_pos q] at hE
    exact absurd hE (by decide)
  have hmm : kn % 64 = 0 := by omega
  have hhas : hasB n at_ ((kn / 64 : Nat) : Int) = true := by
    unfold wrE at hE
    rw [if_neg (by rw [hdn]; decide), if_neg hm0] at hE
    cases q : hasB n at_ ((kn / 64 : Nat) : Int) with
    | true => rfl
    | false => rw [q] at hE; exact absurd hE (by decide)
  obtain ⟨q, hq⟩ : ∃ q, kn / 64 = q := ⟨_, rfl⟩
  rw [hq] at hhas ⊢
  have hv : (kn : Int) / 64 = (q : Int) := by omega
  have hr2 : (kn : Int) % 64 = 0 := by omega
  have q0 : ((q : Int) == 0) = false := beq_eq_false_iff_ne.2 (by omega)
  rw [hdn] at c5
  have hkl := hb.lim
  have HB := Aside0.mk hb
  replace hKb := Aside0.mk hKb
  have HD := Aside0.mk h
  have HQ := Aside0.mk hq
  have OK := Aside0.mk ok
  have HH := Aside0.mk (And.intro hhas hm0)
  have HO := Aside0.mk (And.intro h0 (And.intro h1 h3))
  clear hE hdn hm0 hmm h hq hb ok hhas h0 h1 h3
  obtain ⟨rv, hrv⟩ : ∃ r : Int, (if d.fuse = 0 then 10 else 0) = r := ⟨_, rfl⟩
  rw [hrv]
  replace hrv := Aside0.mk hrv
  go_enter Try.func76, Try.ntmps76
  go_wp2_with (go_at_call 84; refine (hasd_any base g A n c B m e d at_ (q : Int) w HD.out).mono ?_; rintro e1 w1 ⟨rfl, rfl⟩; rw [HH.out.1])
  clear c0 c1 c2 c3 c4 c5
  go_loopg [33] q (fun gk v wr => ∃ (k : Nat) (B1 : Option Addr) (e1 : Nat), Aside (gk + k = q) ∧ v = .int .i64 (k : Int) ∧ Aside0 (DM wr base g A n c B1 (m + k) e1 { d with row := d.row ++ segs at_.toNat b k } ∧ Fr g A B w wr ∧ New w B B1))
  case atStart => exact ⟨0, B, e, rfl, rfl, ⟨by simpa [segs] using HD.out, Fr.refl _ _ _ _, .inl rfl⟩⟩
  case round =>
    obtain ⟨k, B1, e1, hk, rfl, hI⟩ := hrel
    have hkq : k ≤ q := by have := hk.out; omega
    rcases Nat.lt_or_ge k q with hlt | hge
    · have d1 : decide ((k : Int) < (q : Int)) = true := decide_eq_true (by omega)
      have hkn : kn = q * 64 := by have h1 := HQ.out; have h2 := HH.out.2; omega
      obtain ⟨sg, hsg⟩ : ∃ s, (b.drop (k * 64)).take 64 = s := ⟨_, rfl⟩
      have hbl := HB.out.len
      have hs64 : sg.length = 64 := by rw [← hsg, List.length_take, List.length_drop]; omega
      have hbw : Bs wr K kn kc b :=
        ⟨HB.out.len, HB.out.le, HB.out.cap, HB.out.lim, fun hn => by
          obtain ⟨ad, e, hc⟩ := HB.out.cells hn
          have hk3 := hKb.out ad e
          refine ⟨ad, e, fun j hj => ?_⟩
          have hbl := World.block_lt_of_cell? w _ (hc j hj)
          rw [add_block] at hbl
          rw [← hc j hj]
          exact World.cell?_of_block (by rw [add_block]; exact hI.out.2.1.block _ hbl hk3.1 hk3.2.1 hk3.2.2)⟩
      have hbs := (hbw.drop (k * 64) (by omega)).take 64 (by omega)
      rw [hsg] at hbs
      obtain ⟨ak, hak, hx⟩ := hbs.cells (by omega)
      have HRg := Aside0.mk (show ∀ i v, (u8v sg)[i]? = some v → wr.cell? (ak.add i) = some v from fun i v hv => by
        have hi : i < sg.length := by
          rcases Nat.lt_or_ge i sg.length with q | q
          · exact q
          · rw [List.getElem?_eq_none (by rw [u8v_length]; exact q)] at hv
            cases hv
        rw [u8v_get sg i hi] at hv
        injection hv with hv
        rw [← hv]
        exact hx i (by omega))
      have t1 : ∀ W : World, (Instr.slice 22 (.slice K kn kc) (some (.int .i64 ((k : Int) * 64))) none none).run Try.prog W = .ok (.slice (some ak) (kn - k * 64) (kc - k * 64)) W := fun W => by
        rw [sl8_l W K kn kc .i64 ((k : Int) * 64) (by omega) (by omega), show ((k : Int) * 64).toNat = k * 64 by omega, hak]
      have t2 : ∀ W : World, (Instr.arrayAt 100 (.slice (some ak) (kn - k * 64) (kc - k * 64))).run Try.prog W = .ok (.pointer (some ak)) W := fun W => run_arrayAt W 100 _ 64 _ _ _ Try.underlying100 (by omega)
      have t3 := run_build59 (at_ + (k : Int)) sg hs64
      have t4 : ∀ W : World, (Instr.buildSlice 84 1 #[(0, .agg (.int .i64 (at_ + (k : Int)) :: u8v sg).toArray)]).run Try.prog W = .ok (.slice (some ⟨W.heap.size, 0, none⟩) 1 1) (W.alloc (.cells (.int .i64 (at_ + (k : Int)) :: u8v sg).toArray 114)) := fun W => by
        obtain ⟨i0, hi, hzz⟩ := Option.map_eq_some_iff.1 info59
        simp only [Prod.mk.injEq] at hzz
        refine run_slice1 84 114 _ i0 (.agg z65) Try.underlying84 hi hzz.1 (by rw [hzz.2.1]; omega) (by rw [hzz.2.1]; omega) ?_ W
        rw [hzz.2.1, List.size_toArray, List.length_cons, u8v_length, hs64]
      have HI5 := Aside0.mk (show (Try.prog.info? 100).map (·.size) = some (u8v sg).length from by rw [u8v_length, hs64]; kernel_rfl)
      have hat : 0 ≤ at_ ∧ at_ ≤ (n : Int) := by have := of_decide_eq_true HH.out.1; exact ⟨this.1, this.2.2.1⟩
      have hnl := HD.out.sl.lim
      have iw1 : IntKind.i64.wrap ((k : Int) * 64) = (k : Int) * 64 := IntWalk.i64_in _ (by omega)
      have iw2 : IntKind.i64.wrap (at_ + (k : Int)) = at_ + (k : Int) := IntWalk.i64_in _ (by omega)
      obtain ⟨z0, z1, z2, z3, z4, z5⟩ := row6_cells hI.out.1.row
      have hkb : ak.block < wr.heap.size ∧ ak.block ≠ g ∧ B1 ≠ some ⟨ak.block, 0, none⟩ := by
        obtain ⟨a0, ha0, hab⟩ : ∃ a0, K = some a0 ∧ ak.block = a0.block := by
          have e := hak
          unfold cutA at e
          split at e
          · exact ⟨ak, e, rfl⟩
          · rcases K with _ | a0
            · cases e
            · injection e with e
              exact ⟨a0, rfl, by rw [← e, add_block]⟩
        have k3 := hKb.out a0 ha0
        have hlw : a0.block < w.heap.size := by
          obtain ⟨ad, e, hc⟩ := HB.out.cells (by omega)
          have e2 : ad = a0 := Option.some.inj (e.symm.trans ha0)
          have := World.block_lt_of_cell? w _ (hc 0 (by omega))
          rw [add_block, e2] at this
          exact this
        rw [hab]
        exact ⟨Nat.lt_of_lt_of_le hlw hI.out.2.1.size, k3.1, hI.out.2.2.ne _ hlw k3.2.2⟩
      have KS := Aside0.mk hkb
      obtain ⟨W1, hW1⟩ : ∃ X, wr.drew.alloc (.cells (.int .i64 (at_ + (k : Int)) :: u8v sg).toArray 114) = X := ⟨_, rfl⟩
      have hbel1 : Below wr.heap.size wr W1 := by rw [← hW1]; exact (below_drew (Below.refl _ wr)).alloc (Nat.le_refl _) _
      have HD1 := Aside0.mk (hI.out.1.below hbel1)
      have HN1 := Aside0.mk (show W1.rangeAt wr.drew.heap.size 0 (.int .i64 (at_ + (k : Int)) :: u8v sg) by rw [← hW1]; exact lit_range wr.drew _ _ _ rfl)
      have HS0 := Aside0.mk (show SegS ak sg wr.drew ∧ wr.drew.cell? ⟨g, 2, none⟩ = some (.slice B1 (m + k) e1) from ⟨HRg.out, z2⟩)
      have HS1 := Aside0.mk (show SegS ak sg W1 ∧ W1.cell? ⟨g, 2, none⟩ = some (.slice B1 (m + k) e1) from ⟨fun i v hv => cell_below hbel1 (HRg.out i v hv), cell_below hbel1 z2⟩)
      have HB1 := Aside0.mk hbel1
      have HT := Aside0.mk (t4 wr.drew)
      rw [hW1] at HT
      have AT := Aside0.mk (show ((at_.toNat + k : Nat) : Int) = at_ + (k : Int) by omega)
      have SG := Aside0.mk hsg
      clear hkn hat hnl hkb t4 hbel1 z0 z1 z3 z4 z5 hx hbs hbw hsg
      go_upto_region 11 with fail
      refine wp_region_M (fun j => j == 4 || j == 13 || j == 15) (fun w' => SegS ak sg w' ∧ w'.cell? ⟨g, 2, none⟩ = some (.slice B1 (m + k) e1)) (by kernel_rfl) ?_
      refine wpAnyM_take0 (i := 0) (v := ?_) (by simp only [List.getElem?_toArray, List.getElem?_cons_succ, List.getElem?_cons_zero]; rfl) (by kernel_rfl) (by kernel_rfl) (by kernel_rfl) (by rfl) (by exact fun _ _ _ h => h) (Or.inl ⟨by rfl, ?_⟩) ?_
      rotate_left
      · (intro w' _; go_simp; try with_reducible rfl)
      try simp only [Act.put, List.setIfInBounds_toArray, List.set_cons_zero, List.set_cons_succ]
      refine wpAnyM_take0 (i := 1) (v := ?_) (by simp only [List.getElem?_toArray, List.getElem?_cons_succ, List.getElem?_cons_zero]; rfl) (by kernel_rfl) (by kernel_rfl) (by kernel_rfl) (by rfl) (by exact fun _ _ _ h => h) (Or.inl ⟨by rfl, ?_⟩) ?_
      rotate_left
      · (intro w' _; go_simp; try with_reducible rfl)
      try simp only [Act.put, List.setIfInBounds_toArray, List.set_cons_zero, List.set_cons_succ]
      refine wpAnyM_take0 (i := 2) (v := ?_) (by simp only [List.getElem?_toArray, List.getElem?_cons_succ, List.getElem?_cons_zero]; rfl) (by kernel_rfl) (by kernel_rfl) (by kernel_rfl) (by rfl) (by exact fun _ _ _ h => h) (Or.inl ⟨by rfl, ?_⟩) ?_
      rotate_left
      · (intro w' _; go_simp; try with_reducible rfl)
      try simp only [Act.put, List.setIfInBounds_toArray, List.set_cons_zero, List.set_cons_succ]
      refine wpAnyM_take0 (i := 3) (v := ?_) (by simp only [List.getElem?_toArray, List.getElem?_cons_succ, List.getElem?_cons_zero]; rfl) (by kernel_rfl) (by kernel_rfl) (by kernel_rfl) (by rfl) (by exact fun _ _ _ h => h) (Or.inl ⟨by rfl, ?_⟩) ?_
      rotate_left
      · (intro w' _; go_simp; try with_reducible rfl)
      try simp only [Act.put, List.setIfInBounds_toArray, List.set_cons_zero, List.set_cons_succ]
      refine wpAnyM_take0 (i := 5) (v := ?_) (by simp only [List.getElem?_toArray, List.getElem?_cons_succ, List.getElem?_cons_zero]; rfl) (by kernel_rfl) (by kernel_rfl) (by kernel_rfl) (by rfl) (by exact fun _ _ _ h => h) (Or.inl ⟨by rfl, ?_⟩) ?_
      rotate_left
      · (intro w' _; go_simp; try with_reducible rfl)
      try simp only [Act.put, List.setIfInBounds_toArray, List.set_cons_zero, List.set_cons_succ]
      refine wpAnyM_take0 (i := 6) (v := ?_) (by simp only [List.getElem?_toArray, List.getElem?_cons_succ, List.getElem?_cons_zero]; rfl) (by kernel_rfl) (by kernel_rfl) (by kernel_rfl) (by rfl) (by exact fun _ _ _ h => h) (Or.inl ⟨by rfl, ?_⟩) ?_
      rotate_left
      · (intro w' _; go_simp; try with_reducible rfl)
      try simp only [Act.put, List.setIfInBounds_toArray, List.set_cons_zero, List.set_cons_succ]
      refine wpAnyM_take0 (i := 7) (v := ?_) (by simp only [List.getElem?_toArray, List.getElem?_cons_succ, List.getElem?_cons_zero]; rfl) (by kernel_rfl) (by kernel_rfl) (by kernel_rfl) (by rfl) (by exact fun _ _ _ h => h) (Or.inl ⟨by rfl, ?_⟩) ?_
      rotate_left
      · (intro w' _; go_simp; try with_reducible rfl)
      try simp only [Act.put, List.setIfInBounds_toArray, List.set_cons_zero, List.set_cons_succ]
      refine wpAnyM_take0 (i := 8) (v := ?_) (by simp only [List.getElem?_toArray, List.getElem?_cons_succ, List.getElem?_cons_zero]; rfl) (by kernel_rfl) (by kernel_rfl) (by kernel_rfl) (by rfl) (by exact fun _ _ _ h => h) (Or.inl ⟨by rfl, ?_⟩) ?_
      rotate_left
      · (intro w' _; go_simp; try with_reducible rfl)
      try simp only [Act.put, List.setIfInBounds_toArray, List.set_cons_zero, List.set_cons_succ]
      refine wpAnyM_take0 (i := 9) (v := ?_) (by simp only [List.getElem?_toArray, List.getElem?_cons_succ, List.getElem?_cons_zero]; rfl) (by kernel_rfl) (by kernel_rfl) (by kernel_rfl) (by rfl) (by exact fun _ _ _ h => h) (Or.inl ⟨by rfl, ?_⟩) ?_
      rotate_left
      · (intro w' _; go_simp; try with_reducible rfl)
      try simp only [Act.put, List.setIfInBounds_toArray, List.set_cons_zero, List.set_cons_succ]
      refine wpAnyM_take0 (i := 10) (v := ?_) (by simp only [List.getElem?_toArray, List.getElem?_cons_succ, List.getElem?_cons_zero]; rfl) (by kernel_rfl) (by kernel_rfl) (by kernel_rfl) (by rfl) (by exact fun _ _ _ h => h) (Or.inl ⟨by rfl, ?_⟩) ?_
      rotate_left
      · (intro w' _; go_simp; try with_reducible rfl)
      try simp only [Act.put, List.setIfInBounds_toArray, List.set_cons_zero, List.set_cons_succ]
      refine wpAnyM_take0 (i := 11) (v := ?_) (by simp only [List.getElem?_toArray, List.getElem?_cons_succ, List.getElem?_cons_zero]; rfl) (by kernel_rfl) (by kernel_rfl) (by kernel_rfl) (by rfl) (by exact fun _ _ _ h => h) (Or.inl ⟨by rfl, ?_⟩) ?_
      rotate_left
      · (intro w' _; go_simp; try with_reducible rfl)
      try simp only [Act.put, List.setIfInBounds_toArray, List.set_cons_zero, List.set_cons_succ]
      refine wpAnyM_take0 (i := 12) (v := ?_) (by simp only [List.getElem?_toArray, List.getElem?_cons_succ, List.getElem?_cons_zero]; rfl) (by kernel_rfl) (by kernel_rfl) (by kernel_rfl) (by rfl) (by exact fun _ _ _ h => h) (Or.inl ⟨by rfl, ?_⟩) ?_
      rotate_left
      · (intro w' _; go_simp; try with_reducible rfl)
      try simp only [Act.put, List.setIfInBounds_toArray, List.set_cons_zero, List.set_cons_succ]
      refine wpAnyM_take (i := 13) (v := .agg (u8v sg).toArray) (by simp only [List.getElem?_toArray, List.getElem?_cons_succ, List.getElem?_cons_zero]; rfl) (by kernel_rfl) (by kernel_rfl) (by kernel_rfl) (by kernel_rfl) (by exact fun _ _ _ h => h) (yieldsIf_load_at (by rfl) 100 _ rfl ak rfl (u8v sg) _ (fun w' hw' => hw'.1) Try.underlying100 rfl HI5.out) HS0.out ?_
      try simp only [Act.put, List.setIfInBounds_toArray, List.set_cons_zero, List.set_cons_succ]
      refine wpAnyM_take0 (i := 14) (v := .agg (.int .i64 (at_ + (k : Int)) :: u8v sg).toArray) (by simp only [List.getElem?_toArray, List.getElem?_cons_succ, List.getElem?_cons_zero]; rfl) (by kernel_rfl) (by kernel_rfl) (by kernel_rfl) (by rfl) (by exact fun _ _ _ h => h) (yieldsIf_build_at (by rfl) 114 _ rfl #[(0, .int .i64 (at_ + (k : Int))), (1, .agg (u8v sg).toArray)] _ (by simp only [List.map_toArray, List.map_cons, List.map_nil]; rfl) t3) ?_
      try simp only [Act.put, List.setIfInBounds_toArray, List.set_cons_zero, List.set_cons_succ]
      refine wpAnyM_take (i := 4) (v := .slice B1 (m + k) e1) (by simp only [List.getElem?_toArray, List.getElem?_cons_succ, List.getElem?_cons_zero]; rfl) (by kernel_rfl) (by kernel_rfl) (by kernel_rfl) (by kernel_rfl) (by exact fun _ _ _ h => h) (Or.inl ⟨by rfl, ?_⟩) HS0.out ?_
      · (intro w' hSw; obtain ⟨_, hcc⟩ := hSw; go_simp)
      try simp only [Act.put, List.setIfInBounds_toArray, List.set_cons_zero, List.set_cons_succ]
      refine wpAnyM_one (i := 15) (by kernel_rfl) (by simp only [List.getElem?_toArray, List.getElem?_cons_succ, List.getElem?_cons_zero]; rfl) ?_
      with_reducible refine wpl_op (rest := []) ?_ (op_slice1 (w1 := W1) 84 1 #[(0, .tmp 50)] ?_ #[(0, .agg (.int .i64 (at_ + (k : Int)) :: u8v sg).toArray)] (.slice (some ⟨wr.drew.heap.size, 0, none⟩) 1 1) ?_ ?_ ?_)
      · rfl
      · rfl
      · (simp only [List.map_toArray, List.map_cons, List.map_nil]; rfl)
      · exact HT.out
      refine wpl_nil ⟨rfl, fun _ => HS1.out, ?_⟩
      try simp only [Act.put, List.setIfInBounds_toArray, List.set_cons_zero, List.set_cons_succ]
      refine wpAnyM_one (i := 16) (by kernel_rfl) (by simp only [List.getElem?_toArray, List.getElem?_cons_succ, List.getElem?_cons_zero]; rfl) ?_
      refine wpl_oc base (by rfl) (.tmp 40) (.tmp 51) 84 114 (.agg z65) 65 72 (by rfl) Try.underlying84 info59 rfl (by omega) (by omega) (by omega) B1 (m + k) e1 wr.drew.heap.size (wrv (d.row ++ segs at_.toNat b k)) (.int .i64 (at_ + (k : Int)) :: u8v sg) (by rfl) (by rfl) HD1.out.sr (by rw [List.length_cons, u8v_length, hs64]) HN1.out (seg_one _ _) (Nat.le_of_lt HD1.out.sz) (by omega) ?_
      intro B2 e2 w1 hO hG hA
      have HW := Aside0.mk (HD1.out.wrote (at_.toNat + k, sg) hG.out hO.out hA.out (by rw [wrv_snoc, AT.out]))
      clear hO
      refine wpl_nil ⟨rfl, fun q => absurd q (by decide), ?_⟩
      try simp only [Act.put, List.setIfInBounds_toArray, List.set_cons_zero, List.set_cons_succ]
      refine wpAnyM_take0 (i := 17) (v := ?_) (by simp only [List.getElem?_toArray, List.getElem?_cons_succ, List.getElem?_cons_zero]; rfl) (by kernel_rfl) (by kernel_rfl) (by kernel_rfl) (by rfl) (by exact fun _ _ _ h => h) (Or.inl ⟨by rfl, ?_⟩) ?_
      rotate_left
      · (intro w' _; go_simp; try with_reducible rfl)
      try simp only [Act.put, List.setIfInBounds_toArray, List.set_cons_zero, List.set_cons_succ]
      refine wpAnyM_take0 (i := 18) (v := ?_) (by simp only [List.getElem?_toArray, List.getElem?_cons_succ, List.getElem?_cons_zero]; rfl) (by kernel_rfl) (by kernel_rfl) (by kernel_rfl) (by rfl) (by exact fun _ _ _ h => h) (Or.inl ⟨by rfl, ?_⟩) ?_
      rotate_left
      · (intro w' _; go_simp; try with_reducible rfl)
      try simp only [Act.put, List.setIfInBounds_toArray, List.set_cons_zero, List.set_cons_succ]
      refine wpAnyM_one (i := 19) (by kernel_rfl) (by simp only [List.getElem?_toArray, List.getElem?_cons_succ, List.getElem?_cons_zero]; rfl) ?_
      obtain ⟨y0, y1, y2, y3, y4, y5⟩ := row6_cells HW.out.1
      have yf := fun j => Go.Joins.unfrozen_of_block HW.out.1 j
      go_wp2_with fail
      refine wpAnyM_done (by kernel_rfl) ?_ _
      clear y0 y1 y2 y3 y4 y5 yf
      go_wp2_with fail
      go_roundg (q - (k + 1))
      case measure => have := hk.out; omega
      case rel =>
        refine ⟨k + 1, B2, e2, by have := hk.out; exact (by omega : q - (k + 1) + (k + 1) = q), by go_num, ⟨?_, ?_, ?_⟩⟩
        · have := HW.out.2.1; rw [show segs at_.toNat b (k + 1) = segs at_.toNat b k ++ [(at_.toNat + k, sg)] by rw [← SG.out]; rfl, ← List.append_assoc]; exact this
        · exact (hI.out.2.1.trans (Fr.of_below HB1.out) (A1 := A) (B1 := B1) (.inl rfl) hI.out.2.2).trans HW.out.2.2.1 (.inl rfl) hI.out.2.2
        · exact hI.out.2.2.trans (w1 := wr) (New.mono HW.out.2.2.2 HB1.out.size) hI.out.2.1.size
    · obtain rfl : q = k := by omega
      have hqd : d.fuse = 0 ∨ d.fuse ≠ 0 := by omega
      rcases hqd with hf | hf
      · have hdn : (!(opD { d with row := d.row ++ segs at_.toNat b q }).down) = false := by unfold opD; simp [hf]
        have HF := Aside0.mk hf
        have RV := hrv.out
        rw [if_pos hf] at RV
        subst RV
        clear hf
        go_wp2_with (go_at_call 95; refine (op_any base g A n c B1 (m + q) e1 _ wr hI.out.1 HO.out.1 HO.out.2.1 OK.out.fuse HO.out.2.2).mono ?_; rintro e3 w3 ⟨rfl, hM, hO⟩; rw [hdn]; (have HM := Aside0.mk (And.intro hM hO)); clear hM hO)
        go_ret
        exact ⟨rfl, B1, e1, HM.out.1, hI.out.2.1.trans (Fr.of_only HM.out.2) (.inl rfl) hI.out.2.2, hI.out.2.2⟩
      · have hdn : (!(opD { d with row := d.row ++ segs at_.toNat b q }).down) = true := by unfold opD; simp [hf]
        have RV := hrv.out
        rw [if_neg hf] at RV
        subst RV
        clear hf
        go_wp2_with (go_at_call 95; refine (op_any base g A n c B1 (m + q) e1 _ wr hI.out.1 HO.out.1 HO.out.2.1 OK.out.fuse HO.out.2.2).mono ?_; rintro e3 w3 ⟨rfl, hM, hO⟩; rw [hdn]; (have HM := Aside0.mk (And.intro hM hO)); clear hM hO)
        go_ret
        exact ⟨rfl, B1, e1, HM.out.1, hI.out.2.1.trans (Fr.of_only HM.out.2) (.inl rfl) hI.out.2.2, hI.out.2.2⟩
end Go.Proofs.Ythhalmjapiempaa

set_option linter.unusedVariables false
set_option linter.unusedSimpArgs false
namespace Go.Proofs.Ythhalmjapiempaa
open Go.RowKit

/-- The j-th sector of an image, with zeros behind it. -/
def sgL (xs : List UInt8) (j : Nat) : List UInt8 := (xs.drop (64 * j)).take 64 ++ List.replicate (64 - ((xs.drop (64 * j)).take 64).length) 0
/-- The first j sectors of an image. -/
def loadL (xs : List UInt8) : Nat → List UInt8
  | 0 => []
  | j + 1 => loadL xs j ++ sgL xs j
theorem sgL_len (xs : List UInt8) (j : Nat) : (sgL xs j).length = 64 := by
  unfold sgL
  rw [List.length_append, List.length_replicate, List.length_take]
  omega
theorem loadL_len (xs : List UInt8) : ∀ j, (loadL xs j).length = j * 64
  | 0 => rfl
  | j + 1 => by rw [loadL, List.length_append, loadL_len xs j, sgL_len]; omega
/-- How many sectors an image has. -/
def cntL (kn : Nat) (lim : Int) : Nat := min ((kn + 63) / 64) lim.toNat
theorem copied_z64 (s0 : List UInt8) (h : s0.length ≤ 64) : (z64.toList.take 0 ++ (u8v s0 ++ z64.toList.drop (0 + (u8v s0).length))).toArray = (u8v (s0 ++ List.replicate (64 - s0.length) 0)).toArray := by
  rw [List.take_zero, List.nil_append, Nat.zero_add, u8v_length, u8v_append]
  congr 2
  show (u8v (List.replicate 64 0)).drop s0.length = _
  rw [u8v, ← List.map_drop, List.drop_replicate]
  rfl
theorem setRow_row (w : World) (g : Nat) (cs cs' : Array Value) (t : TypeId) (fr : Nat × Nat) (h : w.heap[g]? = some (.cells cs t fr)) : (w.setRow g cs').heap[g]? = some (.cells cs' t fr) := setRow_heap _ _ _ _ _ _ h
def LoadQ (w : World) (g : Nat) (j : Nat) (l : Int) (xs : List UInt8) (w' : World) : Prop := ∃ A c, DM w' w.heap.size g A j c none 0 0 ⟨l, loadL xs j, [], 0, -1, false⟩ ∧ Below w.heap.size w w'
/-- A disk that has one sector more, from a world behind an alloc and a draw. -/
theorem DM.push {w w1 : World} {base g n c m e : Nat} {A B A2 : Option Addr} {c2 : Nat} {d : DV} {s : List UInt8} (h : DM w base g A n c B m e d) (hg : Grw A w w1) (hO : Oc w1 base 100 64 A2 (n + 1) c2 (u8v d.l ++ u8v s)) (hat : A2 = A ∨ A2 = some ⟨w.heap.size, 0, none⟩) :
    w1.heap[g]? = some (.cells #[.int .i64 d.limit, .slice A n c, .slice B m e, .int .i64 d.ops, .int .i64 d.fuse, .bool d.down] 86) ∧
    DM (w1.setCell ⟨g, 1, none⟩ (.slice A2 (n + 1) c2)) base g A2 (n + 1) c2 B m e { d with l := d.l ++ s } ∧ Fr g A B w (w1.setCell ⟨g, 1, none⟩ (.slice A2 (n + 1) c2)) ∧ New w A A2 := by
  have hgl := (Array.getElem?_eq_some_iff.1 h.row).1
  have ho := (OnlyB.refl g w1).set 1 (.slice A2 (n + 1) c2)
  have hr1 := (hg.block g hgl (fun q => h.na g q rfl)).trans h.row
  have hBl : ∀ j, B = some ⟨j, 0, none⟩ → j < w.heap.size := fun j e => by
    rcases h.sr.addr with q | ⟨i, q, _, q2⟩
    · rw [q] at e
      cases e
    · rw [q] at e
      injection e with e
      injection e with e
      omega
  have na2 : ∀ k, A2 = some ⟨k, 0, none⟩ → k ≠ g := fun k q => by
    rcases hat with rfl | rfl
    · exact h.na k q
    · injection q with q
      injection q with q
      omega
  have ab2 : ∀ k j, A2 = some ⟨k, 0, none⟩ → B = some ⟨j, 0, none⟩ → k ≠ j := fun k j q r => by
    rcases hat with rfl | rfl
    · exact h.ab k j q r
    · injection q with q
      injection q with q
      have := hBl j r
      omega
  have hnew : New w A A2 := hat.elim (fun q => .inl q) (fun q => .inr fun i e => by rw [q] at e; injection e with e; injection e with e; omega)
  refine ⟨hr1, ⟨heap_setCell_same w1 g 1 _ _ _ hr1, h.lo, ?_, ?_, na2, h.nb, ab2⟩, (Fr.of_grw hg).trans (Fr.of_only ho) (A1 := A2) (B1 := B) hnew (.inl rfl), hnew⟩
  · rw [u8v_append]
    exact hO.only ho na2
  · exact (h.sr.grw hg (fun i j q r => (h.ab j i r q).symm)).only ho h.nb
set_option maxHeartbeats 8000000 in
set_option maxRecDepth 100000 in
theorem load_any (K : Option Addr) (kn kc : Nat) (xs : List UInt8) (limit : Int) (w : World) (hb : Bs w K kn kc xs) (hkn : kn ≤ 1000000) :
    Calls Try.prog 18 #[.slice K kn kc, .int .i64 limit] w fun e' w' => ∃ g, e' = .returned (.pointer (some ⟨g, 0, none⟩)) ∧ LoadQ w g (cntL kn (limI limit)) (limI limit) xs w' := by
  have HB := Aside0.mk hb
  obtain ⟨cnt, hcnt⟩ : ∃ q, cntL kn (limI limit) = q := ⟨_, rfl⟩
  obtain ⟨L, hL⟩ : ∃ q, limI limit = q := ⟨_, rfl⟩
  have hL0 : 0 ≤ L ∧ L ≤ 65536 := by rw [← hL]; unfold limI; omega
  rw [hL] at hcnt
  rw [hL, hcnt]
  have HC := Aside0.mk hcnt
  replace hL := Aside0.mk hL
  have hkc := hb.le
  clear hb hcnt
  go_enter Try.func18, Try.ntmps18
  go_wp2_with (go_at_call 12; refine (new_any limit w).mono ?_; rintro e1 w1 ⟨g, rfl, hM, hBl⟩; rw [hL.out] at hM; (have HM := Aside0.mk (And.intro hM hBl)); clear hM hBl)
  go_loopg [6] cnt (fun gk v wr => ∃ (j : Nat) (A1 : Option Addr) (c1 : Nat), Aside (gk + j = cnt) ∧ v = .int .i64 ((64 * j : Nat) : Int) ∧ Aside0 (DM wr w.heap.size g A1 j c1 none 0 0 ⟨L, loadL xs j, [], 0, -1, false⟩ ∧ Below w.heap.size w wr))
  case atStart => exact ⟨0, none, 0, rfl, rfl, ⟨HM.out.1, HM.out.2⟩⟩
  case round =>
    obtain ⟨j, A1, c1, hk, rfl, hI⟩ := hrel
    have hjc : j ≤ cnt := by have := hk.out; omega
    have hcd : cnt = min ((kn + 63) / 64) L.toNat := HC.out.symm
    obtain ⟨z0, z1, z2, z3, z4, z5⟩ := row6_cells hI.out.1.row
    obtain ⟨p, hp⟩ : ∃ p, 64 * j = p := ⟨_, rfl⟩
    rw [hp]
    rcases Nat.lt_or_ge j cnt with hlt | hge
    · have d1 : decide ((p : Int) < (kn : Int)) = true := decide_eq_true (by omega)
      have d0 : decide (p < kn) = true := decide_eq_true (by omega)
      have d2 : decide ((j : Int) < L) = true := decide_eq_true (by omega)
      go_upto_region 3 with fail
      go_quiet (fail)
      have HI1 := Aside0.mk (And.intro (hI.out.1.below (below_drawn (Below.refl _ wr) nq)) (below_then hI.out.2 hI.out.2.size (below_drawn (Below.refl _ wr) nq)))
      obtain ⟨wq, hwq⟩ : ∃ X, wr.drewN nq = X := ⟨_, rfl⟩
      rw [hwq] at HI1 ⊢
      clear hwq z0 z1 z2 z3 z4 z5 d0 d1 d2
      have hz := zero54
      go_upto_region 6 with fail
      clear hz
      obtain ⟨Wa, hWa⟩ : ∃ X, (wq.alloc (.cells z64 100)).drew = X := ⟨_, rfl⟩
      have hbA : Below wq.heap.size wq Wa := by rw [← hWa]; exact below_drew ((Below.refl _ wq).alloc (Nat.le_refl _) _)
      have hrN : Wa.heap[wq.heap.size]? = some (.cells z64 100 (0, 0)) := by rw [← hWa]; exact heap_alloc_new wq _
      obtain ⟨s0, hs0⟩ : ∃ s, (xs.drop p).take 64 = s := ⟨_, rfl⟩
      have hs0l : s0.length = Nat.min (kn - p) 64 := by
        rw [← hs0, List.length_take, List.length_drop, HB.out.len]
        exact Nat.min_comm _ _
      have hbw : Bs Wa K kn kc xs := HB.out.below (below_then HI1.out.2 HI1.out.2.size hbA)
      have hbs := hbw.drop p (by omega)
      obtain ⟨ak, hak, hx⟩ := hbs.cells (by omega)
      have hsrc : ∀ (i : Nat) (v : Value), (u8v s0)[i]? = some v → Wa.cell? (ak.add i) = some v := fun i v hv => by
        have hi : i < s0.length := by
          have := (List.getElem?_eq_some_iff.1 hv).1
          rwa [u8v_length] at this
        rw [u8v_get s0 i hi] at hv
        injection hv with hv
        have hi2 : i < kn - p := by rw [hs0l] at hi; exact Nat.lt_of_lt_of_le hi (Nat.min_le_left _ _)
        have hi3 : i < 64 := by rw [hs0l] at hi; exact Nat.lt_of_lt_of_le hi (Nat.min_le_right _ _)
        have := hx i hi2
        rw [this, ← hv, ← hs0]
        simp [b8, List.getD_eq_getElem?_getD, hi3]
      have t1 : ∀ W : World, (Instr.slice 22 (.slice K kn kc) (some (.int .i64 (p : Int))) none none).run Try.prog W = .ok (.slice (some ak) (kn - p) (kc - p)) W := fun W => by
        rw [sl8_l W K kn kc .i64 (p : Int) (by omega) (by omega), show ((p : Int)).toNat = p by omega, hak]
      obtain ⟨sg, hsg⟩ : ∃ s, sgL xs j = s := ⟨_, rfl⟩
      have hs64 : sg.length = 64 := by rw [← hsg]; exact sgL_len _ _
      have hcp := copied_z64 s0 (by rw [hs0l]; exact Nat.min_le_right _ _)
      have hsg2 : s0 ++ List.replicate (64 - s0.length) 0 = sg := by rw [← hsg, ← hs0, ← hp]; rfl
      rw [hsg2] at hcp
      have HCP := Aside0.mk hcp
      have HSRC := Aside0.mk (And.intro hsrc (And.intro hrN hs0l))
      have HSG := Aside0.mk hsg
      clear hsrc hrN hs0l hcp hx hbs hbw hak hsg hsg2 hs0
      refine wp_region_M (fun j => false) (fun _ => True) (by kernel_rfl) ?_
      refine wpAnyM_take0 (i := 0) (v := ?_) (by simp only [List.getElem?_toArray, List.getElem?_cons_succ, List.getElem?_cons_zero]; rfl) (by kernel_rfl) (by kernel_rfl) (by kernel_rfl) (by rfl) (by exact fun _ _ _ h => h) (Or.inl ⟨by rfl, ?_⟩) ?_
      rotate_left
      · (intro w' _; go_simp; try with_reducible rfl)
      try simp only [Act.put, List.setIfInBounds_toArray, List.set_cons_zero, List.set_cons_succ]
      refine wpAnyM_take0 (i := 1) (v := ?_) (by simp only [List.getElem?_toArray, List.getElem?_cons_succ, List.getElem?_cons_zero]; rfl) (by kernel_rfl) (by kernel_rfl) (by kernel_rfl) (by rfl) (by exact fun _ _ _ h => h) (Or.inl ⟨by rfl, ?_⟩) ?_
      rotate_left
      · (intro w' _; go_simp; try with_reducible rfl)
      try simp only [Act.put, List.setIfInBounds_toArray, List.set_cons_zero, List.set_cons_succ]
      refine wpAnyM_take0 (i := 2) (v := ?_) (by simp only [List.getElem?_toArray, List.getElem?_cons_succ, List.getElem?_cons_zero]; rfl) (by kernel_rfl) (by kernel_rfl) (by kernel_rfl) (by rfl) (by exact fun _ _ _ h => h) (Or.inl ⟨by rfl, ?_⟩) ?_
      rotate_left
      · (intro w' _; go_simp; try with_reducible rfl)
      try simp only [Act.put, List.setIfInBounds_toArray, List.set_cons_zero, List.set_cons_succ]
      refine wpAnyM_take0 (i := 3) (v := ?_) (by simp only [List.getElem?_toArray, List.getElem?_cons_succ, List.getElem?_cons_zero]; rfl) (by kernel_rfl) (by kernel_rfl) (by kernel_rfl) (by rfl) (by exact fun _ _ _ h => h) (Or.inl ⟨by rfl, ?_⟩) ?_
      rotate_left
      · (intro w' _; go_simp; try with_reducible rfl)
      try simp only [Act.put, List.setIfInBounds_toArray, List.set_cons_zero, List.set_cons_succ]
      refine wpAnyM_one (i := 4) (by kernel_rfl) (by simp only [List.getElem?_toArray, List.getElem?_cons_succ, List.getElem?_cons_zero]; rfl) ?_
      rw [hWa]
      refine wpList_copy_own (by rfl) (.tmp 28) (.tmp 31) _ _ (by rfl) 5 Try.underlying22 (by kernel_rfl) wq.heap.size 0 64 64 ak (kn - p) (kc - p) (by rfl) (by rfl) z64 100 HSRC.out.2.1 (u8v s0) (by rw [u8v_length]; exact HSRC.out.2.2) HSRC.out.1 (by rw [u8v_length, HSRC.out.2.2, Nat.zero_add]; exact Nat.min_le_right (kn - p) 64) (u8v_one s0) ?_
      rw [HCP.out]
      refine wpl_nil ⟨rfl, fun _ => trivial, ?_⟩
      try simp only [Act.put, List.setIfInBounds_toArray, List.set_cons_zero, List.set_cons_succ]
      refine wpAnyM_done (by kernel_rfl) ?_ _
      obtain ⟨Wb, hWb⟩ : ∃ X, Wa.setRow wq.heap.size (u8v sg).toArray = X := ⟨_, rfl⟩
      have HRB := Aside0.mk (show Wb.heap[wq.heap.size]? = some (.cells (u8v sg).toArray 100 (0, 0)) by rw [← hWb]; exact setRow_row _ _ _ _ _ _ HSRC.out.2.1)
      have hbB : Below wq.heap.size wq Wb := by rw [← hWb]; exact below_setRow hbA (Nat.le_refl _) _
      have HDB := Aside0.mk (HI1.out.1.below hbB)
      have HBB := Aside0.mk (below_then HI1.out.2 HI1.out.2.size hbB)
      rw [hWb]
      clear hWb hbB t1 hbA
      obtain ⟨W1, hW1⟩ : ∃ X, Wb.drew.alloc (.cells (u8v sg).toArray 100) = X := ⟨_, rfl⟩
      have hbel1 : Below Wb.heap.size Wb W1 := by rw [← hW1]; exact (below_drew (Below.refl _ Wb)).alloc (Nat.le_refl _) _
      have HD1 := Aside0.mk (HDB.out.below hbel1)
      have HN1 := Aside0.mk (show W1.rangeAt Wb.drew.heap.size 0 (u8v sg) by rw [← hW1]; exact lit_range Wb.drew _ _ _ rfl)
      have HT := Aside0.mk (show (Instr.buildSlice 83 1 #[(0, .agg (u8v sg).toArray)]).run Try.prog Wb.drew = .ok (.slice (some ⟨Wb.drew.heap.size, 0, none⟩) 1 1) W1 from by
        obtain ⟨i0, hi, hzz⟩ := Option.map_eq_some_iff.1 info54
        simp only [Prod.mk.injEq] at hzz
        rw [← hW1]
        refine run_slice1 83 100 _ i0 (.agg z64) Try.underlying83 hi hzz.1 (by rw [hzz.2.1]; omega) (by rw [hzz.2.1]; omega) ?_ Wb.drew
        rw [hzz.2.1, List.size_toArray, u8v_length, hs64])
      have HI5 := Aside0.mk (show (Try.prog.info? 100).map (·.size) = some (u8v sg).length from by rw [u8v_length, hs64]; kernel_rfl)
      have hsc : ∀ W : World, W.heap[wq.heap.size]? = some (.cells (u8v sg).toArray 100 (0, 0)) → ∀ i v, (u8v sg)[i]? = some v → W.cell? ((⟨wq.heap.size, 0, none⟩ : Addr).add i) = some v := fun W hW i v hv => by
        rw [add_plain, cell_of_row _ _ _ _ _ _ hW]
        simpa using hv
      have HSC := Aside0.mk hsc
      have z1 := (row6_cells HDB.out.row).2.1
      have HS0 := Aside0.mk (show Wb.drew.heap[wq.heap.size]? = some (.cells (u8v sg).toArray 100 (0, 0)) ∧ Wb.drew.cell? ⟨g, 1, none⟩ = some (.slice A1 j c1) from ⟨HRB.out, z1⟩)
      have HS1 := Aside0.mk (show W1.heap[wq.heap.size]? = some (.cells (u8v sg).toArray 100 (0, 0)) ∧ W1.cell? ⟨g, 1, none⟩ = some (.slice A1 j c1) from ⟨(hbel1.block _ (Array.getElem?_eq_some_iff.1 HRB.out).1).trans HRB.out, cell_below hbel1 z1⟩)
      have HB1 := Aside0.mk (below_then HBB.out HBB.out.size hbel1)
      clear hsc z1 hbel1
      go_upto_region 7 with fail
      refine wp_region_M (fun j => j == 4 || j == 5 || j == 6) (fun w' => w'.heap[wq.heap.size]? = some (.cells (u8v sg).toArray 100 (0, 0)) ∧ w'.cell? ⟨g, 1, none⟩ = some (.slice A1 j c1)) (by kernel_rfl) ?_
      refine wpAnyM_take0 (i := 0) (v := ?_) (by simp only [List.getElem?_toArray, List.getElem?_cons_succ, List.getElem?_cons_zero]; rfl) (by kernel_rfl) (by kernel_rfl) (by kernel_rfl) (by rfl) (by exact fun _ _ _ h => h) (Or.inl ⟨by rfl, ?_⟩) ?_
      rotate_left
      · (intro w' _; go_simp; try with_reducible rfl)
      try simp only [Act.put, List.setIfInBounds_toArray, List.set_cons_zero, List.set_cons_succ]
      refine wpAnyM_take0 (i := 1) (v := ?_) (by simp only [List.getElem?_toArray, List.getElem?_cons_succ, List.getElem?_cons_zero]; rfl) (by kernel_rfl) (by kernel_rfl) (by kernel_rfl) (by rfl) (by exact fun _ _ _ h => h) (Or.inl ⟨by rfl, ?_⟩) ?_
      rotate_left
      · (intro w' _; go_simp; try with_reducible rfl)
      try simp only [Act.put, List.setIfInBounds_toArray, List.set_cons_zero, List.set_cons_succ]
      refine wpAnyM_take0 (i := 2) (v := ?_) (by simp only [List.getElem?_toArray, List.getElem?_cons_succ, List.getElem?_cons_zero]; rfl) (by kernel_rfl) (by kernel_rfl) (by kernel_rfl) (by rfl) (by exact fun _ _ _ h => h) (Or.inl ⟨by rfl, ?_⟩) ?_
      rotate_left
      · (intro w' _; go_simp; try with_reducible rfl)
      try simp only [Act.put, List.setIfInBounds_toArray, List.set_cons_zero, List.set_cons_succ]
      refine wpAnyM_take0 (i := 3) (v := ?_) (by simp only [List.getElem?_toArray, List.getElem?_cons_succ, List.getElem?_cons_zero]; rfl) (by kernel_rfl) (by kernel_rfl) (by kernel_rfl) (by rfl) (by exact fun _ _ _ h => h) (Or.inl ⟨by rfl, ?_⟩) ?_
      rotate_left
      · (intro w' _; go_simp; try with_reducible rfl)
      try simp only [Act.put, List.setIfInBounds_toArray, List.set_cons_zero, List.set_cons_succ]
      refine wpAnyM_take (i := 5) (v := .agg (u8v sg).toArray) (by simp only [List.getElem?_toArray, List.getElem?_cons_succ, List.getElem?_cons_zero]; rfl) (by kernel_rfl) (by kernel_rfl) (by kernel_rfl) (by kernel_rfl) (by exact fun _ _ _ h => h) (yieldsIf_load_at (by rfl) 100 _ rfl ⟨wq.heap.size, 0, none⟩ rfl (u8v sg) _ (fun w' hw' => HSC.out w' hw'.1) Try.underlying100 rfl HI5.out) HS0.out ?_
      try simp only [Act.put, List.setIfInBounds_toArray, List.set_cons_zero, List.set_cons_succ]
      refine wpAnyM_take (i := 4) (v := .slice A1 j c1) (by simp only [List.getElem?_toArray, List.getElem?_cons_succ, List.getElem?_cons_zero]; rfl) (by kernel_rfl) (by kernel_rfl) (by kernel_rfl) (by kernel_rfl) (by exact fun _ _ _ h => h) (Or.inl ⟨by rfl, fun w' hSw => by obtain ⟨_, hcc⟩ := hSw; go_simp⟩) HS0.out ?_
      try simp only [Act.put, List.setIfInBounds_toArray, List.set_cons_zero, List.set_cons_succ]
      refine wpAnyM_one (i := 6) (by kernel_rfl) (by simp only [List.getElem?_toArray, List.getElem?_cons_succ, List.getElem?_cons_zero]; rfl) ?_
      with_reducible refine wpl_op (rest := []) ?_ (op_slice1 (w1 := W1) 83 1 #[(0, .tmp 38)] ?_ #[(0, .agg (u8v sg).toArray)] (.slice (some ⟨Wb.drew.heap.size, 0, none⟩) 1 1) ?_ ?_ ?_)
      · rfl
      · rfl
      · (simp only [List.map_toArray, List.map_cons, List.map_nil]; rfl)
      · exact HT.out
      refine wpl_nil ⟨rfl, fun _ => HS1.out, ?_⟩
      try simp only [Act.put, List.setIfInBounds_toArray, List.set_cons_zero, List.set_cons_succ]
      refine wpAnyM_one (i := 7) (by kernel_rfl) (by simp only [List.getElem?_toArray, List.getElem?_cons_succ, List.getElem?_cons_zero]; rfl) ?_
      refine wpl_oc w.heap.size (by rfl) (.tmp 37) (.tmp 39) 83 100 (.agg z64) 64 64 (by rfl) Try.underlying83 info54 rfl (by omega) (by omega) (by omega) A1 j c1 Wb.drew.heap.size (u8v (loadL xs j)) (u8v sg) (by rfl) (by rfl) HD1.out.sl (by rw [u8v_length, hs64]) HN1.out (u8v_one _) (Nat.le_of_lt HD1.out.sz) (by omega) ?_
      intro A2 c2 w1 hO hG hA
      have HW := Aside0.mk (HD1.out.push hG.out hO.out hA.out)
      clear hO
      refine wpl_nil ⟨rfl, fun q => absurd q (by decide), ?_⟩
      try simp only [Act.put, List.setIfInBounds_toArray, List.set_cons_zero, List.set_cons_succ]
      refine wpAnyM_take0 (i := 8) (v := ?_) (by simp only [List.getElem?_toArray, List.getElem?_cons_succ, List.getElem?_cons_zero]; rfl) (by kernel_rfl) (by kernel_rfl) (by kernel_rfl) (by rfl) (by exact fun _ _ _ h => h) (Or.inl ⟨by rfl, ?_⟩) ?_
      rotate_left
      · (intro w' _; go_simp; try with_reducible rfl)
      try simp only [Act.put, List.setIfInBounds_toArray, List.set_cons_zero, List.set_cons_succ]
      refine wpAnyM_take0 (i := 9) (v := ?_) (by simp only [List.getElem?_toArray, List.getElem?_cons_succ, List.getElem?_cons_zero]; rfl) (by kernel_rfl) (by kernel_rfl) (by kernel_rfl) (by rfl) (by exact fun _ _ _ h => h) (Or.inl ⟨by rfl, ?_⟩) ?_
      rotate_left
      · (intro w' _; go_simp; try with_reducible rfl)
      try simp only [Act.put, List.setIfInBounds_toArray, List.set_cons_zero, List.set_cons_succ]
      refine wpAnyM_one (i := 10) (by kernel_rfl) (by simp only [List.getElem?_toArray, List.getElem?_cons_succ, List.getElem?_cons_zero]; rfl) ?_
      obtain ⟨y0, y1, y2, y3, y4, y5⟩ := row6_cells HW.out.1
      have yf := fun j => Go.Joins.unfrozen_of_block HW.out.1 j
      go_wp2_with fail
      refine wpAnyM_done (by kernel_rfl) ?_ _
      clear y0 y1 y2 y3 y4 y5 yf
      have iw : IntKind.i64.wrap ((p : Int) + 64) = ((64 * (j + 1) : Nat) : Int) := by rw [IntWalk.i64_in _ (by omega)]; omega
      go_wp2_with fail
      go_roundg (cnt - (j + 1))
      case measure => have := hk.out; omega
      case rel =>
        refine ⟨j + 1, A2, c2, (by show cnt - (j + 1) + (j + 1) = cnt; omega), by go_num, ⟨?_, ?_⟩⟩
        · have := HW.out.2.1
          rw [show loadL xs (j + 1) = loadL xs j ++ sg by rw [← HSG.out]; rfl]
          exact this
        · exact HW.out.2.2.1.below HB1.out HD1.out.lo (fun k => HD1.out.sl.lo k) (fun k => HD1.out.sr.lo k) HB1.out.size
    · obtain rfl : cnt = j := by omega
      by_cases hp2 : p < kn
      · have d1 : decide ((p : Int) < (kn : Int)) = true := decide_eq_true (by omega)
        have d0 : decide (p < kn) = true := decide_eq_true (by omega)
        have d2 : decide ((cnt : Int) < L) = false := decide_eq_false (by omega)
        clear hcd
        go_upto_region 3 with fail
        go_quiet (fail)
        go_wp2_with fail
        go_ret
        exact ⟨g, rfl, A1, c1, hI.out.1.below (below_drawn (Below.refl _ wr) nq), below_then hI.out.2 hI.out.2.size (below_drawn (Below.refl _ wr) nq)⟩
      · have d1 : decide ((p : Int) < (kn : Int)) = false := decide_eq_false (by omega)
        have d0 : decide (p < kn) = false := decide_eq_false (by omega)
        clear hcd
        go_upto_region 3 with fail
        go_quiet (fail)
        go_wp2_with fail
        go_ret
        exact ⟨g, rfl, A1, c1, hI.out.1.below (below_drawn (Below.refl _ wr) nq), below_then hI.out.2 hI.out.2.size (below_drawn (Below.refl _ wr) nq)⟩
end Go.Proofs.Ythhalmjapiempaa

set_option linter.unusedVariables false
set_option linter.unusedSimpArgs false
namespace Go.Proofs.Ythhalmjapiempaa
open Go.RowKit

/-- What was written, over some sectors. -/
def readL (a k : Nat) : List UInt8 → List (Nat × List UInt8) → List UInt8
  | l, [] => l
  | l, p :: r => readL a k (if a ≤ p.1 ∧ p.1 < a + k then putL l p.2 (64 * (p.1 - a)) else l) r
theorem readL_snoc (a k : Nat) (l : List UInt8) (r : List (Nat × List UInt8)) (p : Nat × List UInt8) : readL a k l (r ++ [p]) = (if a ≤ p.1 ∧ p.1 < a + k then putL (readL a k l r) p.2 (64 * (p.1 - a)) else readL a k l r) := by
  induction r generalizing l with
  | nil => rfl
  | cons q r ih => exact ih _
theorem readL_len (a k : Nat) (l : List UInt8) (row : List (Nat × List UInt8)) (hl : l.length = k * 64) (h : ∀ p, p ∈ row → p.2.length = 64) : (readL a k l row).length = k * 64 := by
  induction row generalizing l with
  | nil => exact hl
  | cons p r ih =>
    have hp := h p List.mem_cons_self
    refine ih _ ?_ (fun q hq => h q (List.mem_cons_of_mem _ hq))
    split
    · rw [putL_length _ _ _ (by rw [hp, hl]; omega)]
      exact hl
    · exact hl
def cutC (A : Option Addr) (c a k : Nat) : Option Addr := if c = a then A else A.map (·.add (a * k))
/-- Some elements of a slice that is read. -/
theorem Rc.cut {w : World} {k n c : Nat} {A : Option Addr} {xs : List Value} (h : Rc w k A n c xs) (a m : Nat) (ham : a + m ≤ n) : Rc w k (cutC A c a k) m (c - a) ((xs.drop (a * k)).take (m * k)) := by
  have hle := h.le
  have hl := h.len
  have hmul : (a + m) * k ≤ n * k := Nat.mul_le_mul_right k ham
  rw [Nat.add_mul] at hmul
  refine ⟨by rw [List.length_take, List.length_drop, hl]; omega, by omega, by have := h.cap; omega, by have := h.lim; omega, fun v hv => h.one v (List.mem_of_mem_drop (List.mem_of_mem_take hv)), fun h0 => ?_⟩
  obtain ⟨ad, rfl, hx⟩ := h.cells (by omega)
  unfold cutC
  rw [if_neg (by omega)]
  refine ⟨ad.add (a * k), rfl, fun j u hu => ?_⟩
  have hj : j < m * k := by
    have := (List.getElem?_eq_some_iff.1 hu).1
    rw [List.length_take] at this
    omega
  rw [List.getElem?_take_of_lt hj, List.getElem?_drop] at hu
  rw [add_add]
  exact hx _ u hu
theorem size54 (w : World) : (sizeOf (Try.prog.elem 83)).run Try.prog w = .ok 64 w := by
  have e : Try.prog.elem 83 = 100 := by simp [Program.elem, Try.underlying83]
  rw [e]
  obtain ⟨i, hi, hz⟩ := Option.map_eq_some_iff.1 info54
  simp only [Prod.mk.injEq] at hz
  simp [sizeOf, typeInfo, hi, hz.2.1]
theorem sl54 (w : World) (A : Option Addr) (n c a k : Nat) (h : a + k ≤ c) :
    (Instr.slice 83 (.slice A n c) (some (.int .i64 (a : Int))) (some (.int .i64 ((a : Int) + (k : Int)))) none).run Try.prog w = .ok (.slice (cutC A c a 64) k (c - a)) w := by
  have e : Try.prog.underlying 83 = some (.slice (Try.prog.elem 83)) := by
    have e : Try.prog.elem 83 = 100 := by simp [Program.elem, Try.underlying83]
    rw [e]; exact Try.underlying83
  rw [run_slice_lh w _ A n c e .i64 .i64 (a : Int) ((a : Int) + (k : Int)) (by omega) (by omega) (by omega), size54]
  simp only [sliced, cutC, Result.andThen]
  rw [show ((a : Int)).toNat = a by omega, show ((a : Int) + (k : Int)).toNat - a = k by omega]
set_option maxHeartbeats 1000000 in
set_option maxRecDepth 100000 in
theorem read_down (base g : Nat) (A : Option Addr) (n c : Nat) (B : Option Addr) (m e : Nat) (d : DV) (at_ many : Int) (w : World) (h : DM w base g A n c B m e d) (hd : d.down = true) :
    Calls Try.prog 59 #[.pointer (some ⟨g, 0, none⟩), .int .i64 at_, .int .i64 many] w fun e' w' => e' = .returned (.tuple #[.slice none 0 0, .int .i64 10]) ∧ w = w' := by
  obtain ⟨c0, c1, c2, c3, c4, c5⟩ := row6_cells h.row
  rw [hd] at c5
  clear hd
  go_enter Try.func59, Try.ntmps59
  go_wp2_with fail
  go_ret2
  exact ⟨rfl, rfl⟩
set_option maxHeartbeats 1000000 in
set_option maxRecDepth 100000 in
theorem read_range (base g : Nat) (A : Option Addr) (n c : Nat) (B : Option Addr) (m e : Nat) (d : DV) (at_ many : Int) (w : World) (h : DM w base g A n c B m e d) (hd : d.down = false) (hh : hasB n at_ many = false) :
    Calls Try.prog 59 #[.pointer (some ⟨g, 0, none⟩), .int .i64 at_, .int .i64 many] w fun e' w' => e' = .returned (.tuple #[.slice none 0 0, .int .i64 11]) ∧ w = w' := by
  obtain ⟨c0, c1, c2, c3, c4, c5⟩ := row6_cells h.row
  rw [hd] at c5
  have HD := Aside0.mk h
  have HH := Aside0.mk hh
  clear hd h hh
  go_enter Try.func59, Try.ntmps59
  go_wp2_with (go_at_call 84; refine (hasd_any base g A n c B m e d at_ many w HD.out).mono ?_; rintro e1 w1 ⟨rfl, rfl⟩; rw [HH.out])
  go_ret2
  exact ⟨rfl, rfl⟩
set_option maxHeartbeats 8000000 in
set_option maxRecDepth 100000 in
theorem read_ok (base g : Nat) (A : Option Addr) (n c : Nat) (B : Option Addr) (m e : Nat) (d : DV) (a k : Nat) (w : World) (h : DM w base g A n c B m e d) (ok : d.ok n) (hd : d.down = false) (hak : a + k ≤ n) :
    Calls Try.prog 59 #[.pointer (some ⟨g, 0, none⟩), .int .i64 (a : Int), .int .i64 (k : Int)] w fun e' w' => ∃ A1 c1, e' = .returned (.tuple #[.slice A1 (k * 64) c1, .int .i64 0]) ∧ Ow w' w.heap.size A1 (k * 64) c1 (readL a k ((d.l.drop (a * 64)).take (k * 64)) d.row) ∧ Below w.heap.size w w' := by
  have HD := Aside0.mk h
  obtain ⟨c0, c1, c2, c3, c4, c5⟩ := row6_cells h.row
  rw [hd] at c5
  have hrl := h.rows ok
  have hl0 := h.sl.lim
  have hl1 := h.sr.lim
  have hcn := h.sl.rc.le
  have HRC := Aside0.mk (h.sl.rc.cut a k hak)
  have t1 := fun W => sl54 W A n c a k (by omega)
  have HH := Aside0.mk (show hasB n (a : Int) (k : Int) = true from decide_eq_true (by omega))
  obtain ⟨l0, hl⟩ : ∃ l, (d.l.drop (a * 64)).take (k * 64) = l := ⟨_, rfl⟩
  have hl0l : l0.length = k * 64 := by rw [← hl, List.length_take, List.length_drop, ok.len]; omega
  rw [u8v_seg, hl] at HRC
  rw [hl]
  have iw : IntKind.i64.wrap ((a : Int) + (k : Int)) = (a : Int) + (k : Int) := IntWalk.i64_in _ (by omega)
  replace hl0l := Aside0.mk hl0l
  clear h hd hl
  go_enter Try.func59, Try.ntmps59
  go_wp2_with (first
    | (go_at_call 84; refine (hasd_any base g A n c B m e d (a : Int) (k : Int) w HD.out).mono ?_; rintro e1 w1 ⟨rfl, rfl⟩; rw [HH.out])
    | (go_at_call 78; refine (cloneS_any _ k _ _ w HRC.out).mono ?_; rintro e1 w1 ⟨A1, cc, rfl, hO, hB⟩; (have HD1 := Aside0.mk (HD.out.below hB)); (have HO := Aside0.mk hO); (have HB := Aside0.mk hB); clear hO hB; (obtain ⟨c0, c1, c2, c3, c4, c5⟩ := row6_cells HD1.out.row)))
  clear c0 c1 c2 c3 c4 c5 t1
  go_loopg [37] m (fun gk v wr => ∃ j : Nat, Aside (gk + j = m) ∧ v = .int .i64 (j : Int) ∧ Aside0 (Oc wr w.heap.size 100 64 A1 k cc (u8v (readL a k l0 (d.row.take j))) ∧ Below w.heap.size w wr))
  case atStart => exact ⟨0, rfl, rfl, ⟨HO.out, HB.out⟩⟩
  case round =>
    obtain ⟨j, hk, rfl, hI⟩ := hrel
    have hjm : j ≤ m := by have := hk.out; omega
    rcases Nat.lt_or_ge j m with hlt | hge
    · have d1 : decide ((j : Int) < (m : Int)) = true := decide_eq_true (by omega)
      obtain ⟨gb, rfl, hgb0, hgb1⟩ := HD.out.sr.head (by omega)
      have hel := wrv_at d.row (fun p hp => (ok.each p hp).1) j (by omega)
      obtain ⟨p, hp⟩ : ∃ p, d.row[j]'(by omega) = p := ⟨_, rfl⟩
      rw [hp] at hel
      have hpm : p ∈ d.row := by rw [← hp]; exact List.getElem_mem _
      have hpo := ok.each p hpm
      have HR := Aside0.mk (show wr.rangeAt gb (j * 65) (wrc p) from by
        have := ((HD.out.sr.below hI.out.2).at_ j hlt).1
        rw [hel] at this
        exact this)
      have HP := Aside0.mk (And.intro hpm (And.intro hpo hp))
      clear hel hp hpm hpo
      have hz := zero59
      have HB2 := Aside0.mk (box_new wr z65 114 (wrc p) (by rw [wrc_len HP.out.2.1.1]; kernel_rfl))
      have hsz : (wrc p).toArray.size = 65 := by rw [List.size_toArray, wrc_len HP.out.2.1.1]
      have HT2 := Aside0.mk (show (wr.alloc (.cells z65 114)).there wr.heap.size 0 (wrc p).toArray.size from by rw [hsz]; exact there_new wr z65 114 65 (by kernel_rfl))
      have HI2 := Aside0.mk (show (Try.prog.info? 114).map (·.size) = some (wrc p).toArray.size from by rw [hsz]; kernel_rfl)
      have HI3 := Aside0.mk (show (Try.prog.info? 114).map (·.size) = some (wrc p).length from by rw [wrc_len HP.out.2.1.1]; kernel_rfl)
      have HL2 := Aside0.mk (show (u8v p.2).length = 64 by rw [u8v_length]; exact HP.out.2.1.1)
      have hpn : p.1 < n := HP.out.2.1.2
      clear hsz
      obtain ⟨W1, hW1⟩ : ∃ X, (wr.alloc (.cells z65 114)).setCells wr.heap.size 0 (wrc p) = X := ⟨_, rfl⟩
      rw [hW1] at HB2
      have x0 : W1.cell? ⟨wr.heap.size, 0, none⟩ = some (.int .i64 (p.1 : Int)) := by rw [cell_of_row _ _ _ _ _ _ HB2.out.1]; rfl
      have HR3 := Aside0.mk (range_row HB2.out.1 1 (u8v p.2) (by rw [HL2.out]; show List.take 64 (u8v p.2) = _; exact List.take_of_length_le (by rw [HL2.out]; exact Nat.le_refl _)))
      have HO1 := Aside0.mk (hI.out.1.below HB2.out.2)
      have hsz2 : (u8v p.2).toArray.size = 64 := by rw [List.size_toArray, HL2.out]
      have HI4 := Aside0.mk (show (Try.prog.info? 100).map (·.size) = some (u8v p.2).toArray.size from by rw [hsz2]; kernel_rfl)
      have HI5 := Aside0.mk (show (Try.prog.info? 100).map (·.size) = some (u8v p.2).length from by rw [HL2.out]; kernel_rfl)
      have HSN := Aside0.mk (show readL a k l0 (d.row.take (j + 1)) = (if a ≤ p.1 ∧ p.1 < a + k then putL (readL a k l0 (d.row.take j)) p.2 (64 * (p.1 - a)) else readL a k l0 (d.row.take j)) from by
        rw [List.take_succ_eq_append_getElem (by omega), HP.out.2.2, readL_snoc])
      by_cases ha1 : a ≤ p.1
      · have f1 : decide ((a : Int) ≤ (p.1 : Int)) = true := decide_eq_true (by omega)
        have f1' : decide (a ≤ p.1) = true := decide_eq_true ha1
        by_cases ha2 : p.1 < a + k
        · have f2 : decide ((p.1 : Int) < (a : Int) + (k : Int)) = true := decide_eq_true (by omega)
          have f2' : decide (p.1 < a + k) = true := decide_eq_true ha2
          obtain ⟨q, hq⟩ : ∃ q, p.1 - a = q := ⟨_, rfl⟩
          have hq1 : q < k := by omega
          have hqi : (p.1 : Int) - (a : Int) = (q : Int) := by omega
          obtain ⟨ga, rfl, hga0, hga1⟩ := hI.out.1.head (by omega)
          have HT3 := Aside0.mk (show W1.there ga (q * 64) (u8v p.2).toArray.size from by rw [hsz2]; exact (HO1.out.at_ q hq1).2)
          rw [if_pos ⟨ha1, ha2⟩, hq] at HSN
          clear hsz2
          go_wp2_with (first
            | (with_reducible refine wpList_load_mid rfl 114 _ rfl gb (j * 65) rfl (wrc p) _ HR.out Try.underlying114 rfl HI3.out ?_)
            | (with_reducible refine wpList_store_mid rfl 114 _ _ rfl wr.heap.size 0 (wrc p).toArray rfl rfl HT2.out HI2.out (all_oneCell_toArray (wrc_one p)) ?_)
            | (with_reducible refine wpList_load_mid rfl 100 _ rfl wr.heap.size 1 rfl (u8v p.2) _ HR3.out Try.underlying100 rfl HI5.out ?_)
            | (with_reducible refine wpList_store_mid rfl 100 _ _ rfl ga (q * 64) (u8v p.2).toArray rfl rfl HT3.out HI4.out (all_oneCell_toArray (u8v_one p.2)) ?_))
          go_roundg (m - (j + 1))
          case measure => have := hk.out; omega
          case rel =>
            obtain ⟨k1, k2⟩ := HO1.out.put q hq1 (u8v p.2) HL2.out (u8v_one _)
            refine ⟨j + 1, (by show m - (j + 1) + (j + 1) = m; omega), by go_num, ⟨?_, k2.below (below_then hI.out.2 hI.out.2.size HB2.out.2) hga0 (Nat.le_refl _)⟩⟩
            rw [u8v_put _ _ _ _ HP.out.2.1.1] at k1
            rw [HSN.out, Nat.mul_comm 64]
            exact k1
        · have f2 : decide ((p.1 : Int) < (a : Int) + (k : Int)) = false := decide_eq_false (by omega)
          have f2' : decide (p.1 < a + k) = false := decide_eq_false ha2
          rw [if_neg (fun q => ha2 q.2)] at HSN
          clear hsz2
          go_wp2_with (first
            | (with_reducible refine wpList_load_mid rfl 114 _ rfl gb (j * 65) rfl (wrc p) _ HR.out Try.underlying114 rfl HI3.out ?_)
            | (with_reducible refine wpList_store_mid rfl 114 _ _ rfl wr.heap.size 0 (wrc p).toArray rfl rfl HT2.out HI2.out (all_oneCell_toArray (wrc_one p)) ?_))
          go_roundg (m - (j + 1))
          case measure => have := hk.out; omega
          case rel =>
            refine ⟨j + 1, (by show m - (j + 1) + (j + 1) = m; omega), by go_num, ⟨?_, below_then hI.out.2 hI.out.2.size HB2.out.2⟩⟩
            rw [HSN.out]
            exact HO1.out
      · have f1 : decide ((a : Int) ≤ (p.1 : Int)) = false := decide_eq_false (by omega)
        have f1' : decide (a ≤ p.1) = false := decide_eq_false ha1
        rw [if_neg (fun q => ha1 q.1)] at HSN
        clear hsz2
        go_wp2_with (first
          | (with_reducible refine wpList_load_mid rfl 114 _ rfl gb (j * 65) rfl (wrc p) _ HR.out Try.underlying114 rfl HI3.out ?_)
          | (with_reducible refine wpList_store_mid rfl 114 _ _ rfl wr.heap.size 0 (wrc p).toArray rfl rfl HT2.out HI2.out (all_oneCell_toArray (wrc_one p)) ?_))
        go_roundg (m - (j + 1))
        case measure => have := hk.out; omega
        case rel =>
          refine ⟨j + 1, (by show m - (j + 1) + (j + 1) = m; omega), by go_num, ⟨?_, below_then hI.out.2 hI.out.2.size HB2.out.2⟩⟩
          rw [HSN.out]
          exact HO1.out
    · obtain rfl : m = j := by omega
      have d1 : decide ((m : Int) < (m : Int)) = false := by simp
      have h9 := hI.out.1
      rw [List.take_of_length_le (by omega)] at h9
      have HE := Aside0.mk (readL_len a k l0 d.row hl0l.out (fun p hp => (ok.each p hp).1))
      have H9 := Aside0.mk h9
      clear h9
      go_wp2_with (go_at_call 49; refine (dbytes_oc H9.out).mono ?_; rintro e2 w2 ⟨A2, c2, rfl, hO2, hB2⟩; (have HO2 := Aside0.mk hO2); (have HB2 := Aside0.mk hB2); clear hO2 hB2)
      go_ret2
      have h8 := HO2.out.mono hI.out.2.size
      rw [HE.out] at h8 ⊢
      exact ⟨A2, c2, rfl, h8, below_then hI.out.2 hI.out.2.size HB2.out⟩
end Go.Proofs.Ythhalmjapiempaa

set_option linter.unusedVariables false
set_option linter.unusedSimpArgs false
namespace Go.Proofs.Ythhalmjapiempaa
open Go.RowKit

/-- How many sectors a disk has. -/
def nD (d : DV) : Nat := d.l.length / 64
def Apt (g : Nat) (A B : Option Addr) (i : Nat) : Prop := i ≠ g ∧ A ≠ some ⟨i, 0, none⟩ ∧ B ≠ some ⟨i, 0, none⟩
structure DP (w0 : World) (g : Nat) (R : List (Nat × Obj)) (A : Option Addr) (c : Nat) (B : Option Addr) (e : Nat) (d : DV) (W : World) : Prop where
  dm : DM W w0.heap.size g A (nD d) c B d.row.length e d
  ok : d.ok (nD d)
  apt : ∀ p ∈ R, Apt g A B p.1
  rows : ∀ p ∈ R, W.heap[p.1]? = some p.2
  bel : Below w0.heap.size w0 W
/-- A disk in memory, made since w0, and rows that stand beside it. -/
def DH (w0 : World) (g : Nat) (R : List (Nat × Obj)) (d : DV) (W : World) : Prop := ∃ A c B e, DP w0 g R A c B e d W
theorem DP.to {w0 : World} {g : Nat} {R : List (Nat × Obj)} {A B A1 B1 : Option Addr} {c e c1 e1 n1 m1 : Nat} {d d1 : DV} {W W1 : World} (h : DP w0 g R A c B e d W)
    (hm : DM W1 w0.heap.size g A1 n1 c1 B1 m1 e1 d1) (hn : n1 = nD d1) (hr : m1 = d1.row.length) (ok : d1.ok (nD d1)) (hf : Fr g A B W W1) (ha : New W A A1) (hb : New W B B1) : DP w0 g R A1 c1 B1 e1 d1 W1 := by
  subst hn hr
  have hlt : ∀ p ∈ R, p.1 < W.heap.size := fun p hp => (Array.getElem?_eq_some_iff.1 (h.rows p hp)).1
  exact ⟨hm, ok, fun p hp => ⟨(h.apt p hp).1, ha.ne _ (hlt p hp) (h.apt p hp).2.1, hb.ne _ (hlt p hp) (h.apt p hp).2.2⟩,
    fun p hp => (hf.block _ (hlt p hp) (h.apt p hp).1 (h.apt p hp).2.1 (h.apt p hp).2.2).trans (h.rows p hp),
    hf.below h.bel h.dm.lo (fun k => h.dm.sl.lo k) (fun k => h.dm.sr.lo k) h.bel.size⟩
theorem DH.lt {w0 : World} {g : Nat} {R : List (Nat × Obj)} {d : DV} {W : World} (h : DH w0 g R d W) : ∀ p ∈ R, p.1 < W.heap.size := by
  obtain ⟨A, c, B, e, h⟩ := h
  exact fun p hp => (Array.getElem?_eq_some_iff.1 (h.rows p hp)).1
theorem DH.bel {w0 : World} {g : Nat} {R : List (Nat × Obj)} {d : DV} {W : World} (h : DH w0 g R d W) : Below w0.heap.size w0 W := by
  obtain ⟨A, c, B, e, h⟩ := h
  exact h.bel
theorem DH.ok {w0 : World} {g : Nat} {R : List (Nat × Obj)} {d : DV} {W : World} (h : DH w0 g R d W) : d.ok (nD d) := by
  obtain ⟨A, c, B, e, h⟩ := h
  exact h.ok
theorem DH.row {w0 : World} {g : Nat} {R : List (Nat × Obj)} {d : DV} {W : World} (h : DH w0 g R d W) {i : Nat} {o : Obj} (hp : (i, o) ∈ R) : W.heap[i]? = some o := by
  obtain ⟨A, c, B, e, h⟩ := h
  exact h.rows _ hp
theorem DH.nlim {w0 : World} {g : Nat} {R : List (Nat × Obj)} {d : DV} {W : World} (h : DH w0 g R d W) : nD d ≤ 1000000000 := by
  obtain ⟨A, c, B, e, h⟩ := h
  exact h.dm.sl.lim
/-- What is made since changes nothing. -/
theorem DH.step {w0 : World} {g : Nat} {R : List (Nat × Obj)} {d : DV} {W W1 : World} (h : DH w0 g R d W) (hB : Below W.heap.size W W1) : DH w0 g R d W1 := by
  obtain ⟨A, c, B, e, h⟩ := h
  exact ⟨A, c, B, e, h.to (h.dm.below hB) rfl rfl h.ok (Fr.of_below hB) (.inl rfl) (.inl rfl)⟩
theorem DM.altA {w : World} {base g n c m e : Nat} {A B : Option Addr} {d : DV} (h : DM w base g A n c B m e d) (i : Nat) (hi : w.heap.size ≤ i) : Apt g A B i := by
  have hg := (Array.getElem?_eq_some_iff.1 h.row).1
  refine ⟨by omega, fun q => ?_, fun q => ?_⟩
  · rcases h.sl.addr with r | ⟨j, r, _, r2⟩
    · rw [r] at q; cases q
    · rw [r] at q; injection q with q; injection q with q; omega
  · rcases h.sr.addr with r | ⟨j, r, _, r2⟩
    · rw [r] at q; cases q
    · rw [r] at q; injection q with q; injection q with q; omega
/-- A row that was made since is held, too. -/
theorem DH.hold {w0 : World} {g : Nat} {R : List (Nat × Obj)} {d : DV} {W W1 : World} (h : DH w0 g R d W) (hB : Below W.heap.size W W1) (i : Nat) (o : Obj) (hi : W.heap.size ≤ i) (ho : W1.heap[i]? = some o) : DH w0 g ((i, o) :: R) d W1 := by
  obtain ⟨A, c, B, e, h⟩ := h
  have h1 := h.to (h.dm.below hB) rfl rfl h.ok (Fr.of_below hB) (.inl rfl) (.inl rfl)
  refine ⟨A, c, B, e, h1.dm, h1.ok, fun p hp => ?_, fun p hp => ?_, h1.bel⟩
  · rcases List.mem_cons.1 hp with rfl | hp
    · exact h.dm.altA _ hi
    · exact h1.apt p hp
  · rcases List.mem_cons.1 hp with rfl | hp
    · exact ho
    · exact h1.rows p hp
theorem DH.drop {w0 : World} {g : Nat} {R R1 : List (Nat × Obj)} {d : DV} {W : World} (h : DH w0 g R d W) (hs : ∀ p ∈ R1, p ∈ R) : DH w0 g R1 d W := by
  obtain ⟨A, c, B, e, h⟩ := h
  exact ⟨A, c, B, e, h.dm, h.ok, fun p hp => h.apt p (hs p hp), fun p hp => h.rows p (hs p hp), h.bel⟩
/-- A row that is held is another. -/
theorem DH.turn {w0 : World} {g : Nat} {R : List (Nat × Obj)} {d : DV} {W W1 : World} {i : Nat} {o o1 : Obj} (h : DH w0 g ((i, o) :: R) d W) (hO : OnlyB i W W1) (hi : w0.heap.size ≤ i) (hne : ∀ p ∈ R, p.1 ≠ i) (ho : W1.heap[i]? = some o1) : DH w0 g ((i, o1) :: R) d W1 := by
  obtain ⟨A, c, B, e, h⟩ := h
  have hap := h.apt (i, o) List.mem_cons_self
  have hg := (Array.getElem?_eq_some_iff.1 h.dm.row).1
  have hdm : DM W1 w0.heap.size g A (nD d) c B d.row.length e d :=
    ⟨(hO.block g hg (Ne.symm hap.1)).trans h.dm.row, h.dm.lo, h.dm.sl.only hO (fun k q r => hap.2.1 (by rw [q, r])), h.dm.sr.only hO (fun k q r => hap.2.2 (by rw [q, r])), h.dm.na, h.dm.nb, h.dm.ab⟩
  refine ⟨A, c, B, e, hdm, h.ok, fun p hp => ?_, fun p hp => ?_, ⟨hO.os.trans h.bel.os, hO.tape.trans h.bel.tape, hO.output.trans h.bel.output, Nat.le_trans h.bel.size hO.size, fun k hk => (hO.block k (Nat.lt_of_lt_of_le hk h.bel.size) (by omega)).trans (h.bel.block k hk)⟩⟩
  · rcases List.mem_cons.1 hp with rfl | hp
    · exact hap
    · exact h.apt p (List.mem_cons_of_mem _ hp)
  · rcases List.mem_cons.1 hp with rfl | hp
    · exact ho
    · have := h.rows p (List.mem_cons_of_mem _ hp)
      exact (hO.block _ (Array.getElem?_eq_some_iff.1 this).1 (hne p hp)).trans this
/-- Whose cells the disk does not touch. -/
def Free (w0 : World) (R : List (Nat × Obj)) (K : Option Addr) (n : Nat) : Prop := 0 < n → ∀ a, K = some a → a.block < w0.heap.size ∨ ∃ o, (a.block, o) ∈ R
theorem DP.free {w0 : World} {g : Nat} {R : List (Nat × Obj)} {A B K : Option Addr} {c e n : Nat} {d : DV} {W : World} (h : DP w0 g R A c B e d W) (hf : Free w0 R K n) (h0 : 0 < n) : ∀ a, K = some a → Apt g A B a.block := fun a ha => by
  rcases hf h0 a ha with q | ⟨o, q⟩
  · refine ⟨by have := h.dm.lo; omega, fun r => ?_, fun r => ?_⟩
    · have := h.dm.sl.lo _ r; omega
    · have := h.dm.sr.lo _ r; omega
  · exact h.apt _ q
/-! What the functions do, in plain terms. -/
def armD (d : DV) (k : Int) : DV := { d with fuse := if k < -1 then -1 else k }
def growE (d : DV) (k : Int) : Int := if d.down = true then 10 else if d.limit < k then 12 else 0
def growD (d : DV) (k : Int) : DV := if growE d k = 0 then { d with l := d.l ++ List.replicate (64 * (k.toNat - nD d)) 0 } else d
def readE (d : DV) (at_ many : Int) : Int := if d.down = true then 10 else if hasB (nD d) at_ many = true then 0 else 11
def readB (d : DV) (at_ many : Int) : List UInt8 := if readE d at_ many = 0 then readL at_.toNat many.toNat ((d.l.drop (at_.toNat * 64)).take (many.toNat * 64)) d.row else []
def writeE (d : DV) (at_ : Int) (b : List UInt8) : Int := if wrE d (nD d) at_ b.length = 0 then (if d.fuse = 0 then 10 else 0) else wrE d (nD d) at_ b.length
def writeD (d : DV) (at_ : Int) (b : List UInt8) : DV := if wrE d (nD d) at_ b.length = 0 then opD { d with row := d.row ++ segs at_.toNat b (b.length / 64) } else d
def syncE (d : DV) : Int := if d.down = true then 10 else if d.fuse = 0 then 10 else 0
def syncD (d : DV) : DV := if d.down = true then d else if d.fuse = 0 then opD d else { opD d with l := seenL d.l d.row, row := [] }
theorem segs_len (a : Nat) (b : List UInt8) : ∀ k, (segs a b k).length = k
  | 0 => rfl
  | k + 1 => by rw [segs, List.length_append, segs_len a b k]; rfl
theorem segs_mem (a : Nat) (b : List UInt8) : ∀ k, k * 64 ≤ b.length → ∀ p, p ∈ segs a b k → p.2.length = 64 ∧ a ≤ p.1 ∧ p.1 < a + k
  | 0, _, p, hp => by cases hp
  | k + 1, hk, p, hp => by
    rcases List.mem_append.1 hp with hp | hp
    · have := segs_mem a b k (by omega) p hp
      exact ⟨this.1, this.2.1, by omega⟩
    · obtain rfl : p = _ := List.mem_singleton.1 hp
      refine ⟨?_, by omega, by omega⟩
      rw [List.length_take, List.length_drop]
      omega
theorem nD_of {d : DV} {n : Nat} (h : d.l.length = n * 64) : nD d = n := by unfold nD; omega
theorem wrE_ok {d : DV} {n : Nat} {at_ : Int} {k : Nat} (h : wrE d n at_ k = 0) : d.down = false ∧ k % 64 = 0 ∧ 0 < k ∧ 0 ≤ at_ ∧ at_.toNat + k / 64 ≤ n := by
  unfold wrE at h
  split at h
  · exact absurd h (by decide)
  · rename_i hd
    split at h
    · exact absurd h (by decide)
    · rename_i hm
      split at h
      · rename_i hh
        have := of_decide_eq_true hh
        exact ⟨by simpa using hd, by omega, by omega, this.1, by omega⟩
      · exact absurd h (by decide)
theorem writeD_nD (d : DV) (at_ : Int) (b : List UInt8) : nD (writeD d at_ b) = nD d := by unfold writeD; split <;> rfl
theorem writeD_ok {d : DV} (ok : d.ok (nD d)) (at_ : Int) (b : List UInt8) : (writeD d at_ b).ok (nD (writeD d at_ b)) := by
  rw [writeD_nD]
  unfold writeD
  split
  · rename_i hE
    obtain ⟨_, h1, h2, h3, h4⟩ := wrE_ok hE
    refine opd_ok ⟨ok.len, fun p hp => ?_, ok.lim0, ok.lim, ok.fuse⟩
    rcases List.mem_append.1 hp with hp | hp
    · exact ok.each p hp
    · have := segs_mem at_.toNat b (b.length / 64) (by omega) p hp
      exact ⟨this.1, by omega⟩
  · exact ok
theorem syncD_ok {d : DV} (ok : d.ok (nD d)) : (syncD d).ok (nD (syncD d)) ∧ nD (syncD d) = nD d := by
  unfold syncD
  split
  · exact ⟨ok, rfl⟩
  · split
    · exact ⟨opd_ok ok, rfl⟩
    · have hl := seenL_len d.l d.row _ ok.len ok.each
      have hn : nD { opD d with l := seenL d.l d.row, row := [] } = nD d := nD_of hl
      rw [hn]
      exact ⟨⟨hl, (fun p hp => by cases hp), ok.lim0, ok.lim, (opd_ok ok).fuse⟩, rfl⟩
theorem growD_ok {d : DV} (ok : d.ok (nD d)) (k : Int) : (growD d k).ok (nD (growD d k)) ∧ nD (growD d k) = if growE d k = 0 then nD d + (k.toNat - nD d) else nD d := by
  have hl := ok.len
  unfold growD
  split
  · have hn : nD { d with l := d.l ++ List.replicate (64 * (k.toNat - nD d)) 0 } = nD d + (k.toNat - nD d) := nD_of (by rw [List.length_append, List.length_replicate, hl]; omega)
    rw [hn]
    exact ⟨⟨by rw [List.length_append, List.length_replicate, hl]; omega, fun p hp => ⟨(ok.each p hp).1, by have := (ok.each p hp).2; omega⟩, ok.lim0, ok.lim, ok.fuse⟩, rfl⟩
  · exact ⟨ok, rfl⟩
/-! The contracts. -/
theorem size_h {w0 : World} {g : Nat} {R : List (Nat × Obj)} {d : DV} {W : World} (h : DH w0 g R d W) :
    Calls Try.prog 29 #[.pointer (some ⟨g, 0, none⟩)] W fun e w' => e = .returned (.int .i64 (nD d : Int)) ∧ W = w' := by
  obtain ⟨A, c, B, e, h⟩ := h
  exact size_any _ g A _ c B _ e d W h.dm
theorem limit_h {w0 : World} {g : Nat} {R : List (Nat × Obj)} {d : DV} {W : World} (h : DH w0 g R d W) :
    Calls Try.prog 31 #[.pointer (some ⟨g, 0, none⟩)] W fun e w' => e = .returned (.int .i64 d.limit) ∧ W = w' := by
  obtain ⟨A, c, B, e, h⟩ := h
  exact limit_any _ g A _ c B _ e d W h.dm
theorem down_h {w0 : World} {g : Nat} {R : List (Nat × Obj)} {d : DV} {W : World} (h : DH w0 g R d W) :
    Calls Try.prog 47 #[.pointer (some ⟨g, 0, none⟩)] W fun e w' => e = .returned (.bool d.down) ∧ W = w' := by
  obtain ⟨A, c, B, e, h⟩ := h
  exact down_any _ g A _ c B _ e d W h.dm
theorem ops_h {w0 : World} {g : Nat} {R : List (Nat × Obj)} {d : DV} {W : World} (h : DH w0 g R d W) :
    Calls Try.prog 32 #[.pointer (some ⟨g, 0, none⟩)] W fun e w' => e = .returned (.int .i64 d.ops) ∧ W = w' := by
  obtain ⟨A, c, B, e, h⟩ := h
  exact ops_any _ g A _ c B _ e d W h.dm
theorem pending_h {w0 : World} {g : Nat} {R : List (Nat × Obj)} {d : DV} {W : World} (h : DH w0 g R d W) :
    Calls Try.prog 33 #[.pointer (some ⟨g, 0, none⟩)] W fun e w' => e = .returned (.int .i64 (d.row.length : Int)) ∧ W = w' := by
  obtain ⟨A, c, B, e, h⟩ := h
  exact pending_any _ g A _ c B _ e d W h.dm
theorem arm_h {w0 : World} {g : Nat} {R : List (Nat × Obj)} {d : DV} {W : World} (h : DH w0 g R d W) (k : Int) :
    Calls Try.prog 21 #[.pointer (some ⟨g, 0, none⟩), .int .i64 k] W fun e w' => e = .returned (.tuple #[]) ∧ DH w0 g R (armD d k) w' := by
  obtain ⟨A, c, B, e, h⟩ := h
  refine (arm_any _ g A _ c B _ e d k W h.dm).mono ?_
  rintro e1 w1 ⟨rfl, hm, ho⟩
  refine ⟨rfl, A, c, B, e, h.to (d1 := armD d k) hm rfl rfl ⟨h.ok.len, h.ok.each, h.ok.lim0, h.ok.lim, ?_⟩ (Fr.of_only ho) (.inl rfl) (.inl rfl)⟩
  show -1 ≤ (if k < -1 then -1 else k)
  split <;> omega
theorem grow_h {w0 : World} {g : Nat} {R : List (Nat × Obj)} {d : DV} {W : World} (h : DH w0 g R d W) (k : Int) :
    Calls Try.prog 74 #[.pointer (some ⟨g, 0, none⟩), .int .i64 k] W fun e w' => e = .returned (.int .i64 (growE d k)) ∧ DH w0 g R (growD d k) w' := by
  have hok := growD_ok h.ok k
  obtain ⟨A, c, B, e, h⟩ := h
  cases hd : d.down with
  | true =>
    have hE : growE d k = 10 := if_pos hd
    have hD : growD d k = d := if_neg (by rw [hE]; decide)
    rw [hE, hD]
    refine (grow_down _ g A _ c B _ e d k W h.dm hd).mono ?_
    rintro e1 w1 ⟨rfl, rfl⟩
    exact ⟨rfl, A, c, B, e, h⟩
  | false =>
    by_cases hk : d.limit < k
    · have hE : growE d k = 12 := (if_neg (by rw [hd]; decide)).trans (if_pos hk)
      have hD : growD d k = d := if_neg (by rw [hE]; decide)
      rw [hE, hD]
      refine (grow_full _ g A _ c B _ e d k W h.dm hd hk).mono ?_
      rintro e1 w1 ⟨rfl, rfl⟩
      exact ⟨rfl, A, c, B, e, h⟩
    · have hE : growE d k = 0 := (if_neg (by rw [hd]; decide)).trans (if_neg hk)
      have hD : growD d k = { d with l := d.l ++ List.replicate (64 * (k.toNat - nD d)) 0 } := if_pos hE
      rw [if_pos hE] at hok
      rw [hE]
      refine (grow_any _ g A _ c B _ e d k W h.dm hd (by omega) (by have := h.ok.lim; omega)).mono ?_
      rintro e1 w1 ⟨rfl, A1, c1, hm, hf, ha⟩
      refine ⟨rfl, A1, c1, B, e, h.to (d1 := growD d k) (by rw [hD]; exact hm) hok.2.symm (by rw [hD]) hok.1 hf ha (.inl rfl)⟩
theorem image_h {w0 : World} {g : Nat} {R : List (Nat × Obj)} {d : DV} {W : World} (h : DH w0 g R d W) :
    Calls Try.prog 17 #[.pointer (some ⟨g, 0, none⟩)] W fun e w' => ∃ A1 c1, e = .returned (.slice A1 (nD d * 64) c1) ∧ Ow w' W.heap.size A1 (nD d * 64) c1 (seenL d.l d.row) ∧ Below W.heap.size W w' := by
  obtain ⟨A, c, B, e, h⟩ := h
  exact image_any _ g A _ c B _ e d W h.dm h.ok
theorem read_h {w0 : World} {g : Nat} {R : List (Nat × Obj)} {d : DV} {W : World} (h : DH w0 g R d W) (at_ many : Int) :
    Calls Try.prog 59 #[.pointer (some ⟨g, 0, none⟩), .int .i64 at_, .int .i64 many] W fun e w' => ∃ A1 c1, e = .returned (.tuple #[.slice A1 (readB d at_ many).length c1, .int .i64 (readE d at_ many)]) ∧ Ow w' W.heap.size A1 (readB d at_ many).length c1 (readB d at_ many) ∧ Below W.heap.size W w' := by
  obtain ⟨A, c, B, e, h⟩ := h
  cases hd : d.down with
  | true =>
    have hE : readE d at_ many = 10 := if_pos hd
    have hD : readB d at_ many = [] := if_neg (by rw [hE]; decide)
    rw [hE, hD]
    refine (read_down _ g A _ c B _ e d at_ many W h.dm hd).mono ?_
    rintro e1 w1 ⟨rfl, rfl⟩
    exact ⟨none, 0, rfl, Ow.nil _ _, Below.refl _ _⟩
  | false =>
    cases hh : hasB (nD d) at_ many with
    | false =>
      have hE : readE d at_ many = 11 := (if_neg (by rw [hd]; decide)).trans (if_neg (by rw [hh]; decide))
      have hD : readB d at_ many = [] := if_neg (by rw [hE]; decide)
      rw [hE, hD]
      refine (read_range _ g A _ c B _ e d at_ many W h.dm hd hh).mono ?_
      rintro e1 w1 ⟨rfl, rfl⟩
      exact ⟨none, 0, rfl, Ow.nil _ _, Below.refl _ _⟩
    | true =>
      have hE : readE d at_ many = 0 := (if_neg (by rw [hd]; decide)).trans (if_pos hh)
      have hD : readB d at_ many = readL at_.toNat many.toNat ((d.l.drop (at_.toNat * 64)).take (many.toNat * 64)) d.row := if_pos hE
      have hb := of_decide_eq_true hh
      have hl : (readB d at_ many).length = many.toNat * 64 := by
        rw [hD]
        refine readL_len _ _ _ _ ?_ (fun p hp => (h.ok.each p hp).1)
        rw [List.length_take, List.length_drop, h.ok.len]
        omega
      rw [hE, hl, hD]
      have := read_ok _ g A _ c B _ e d at_.toNat many.toNat W h.dm h.ok hd (by omega)
      rw [show ((at_.toNat : Nat) : Int) = at_ by omega, show ((many.toNat : Nat) : Int) = many by omega] at this
      exact this
theorem write_h {w0 : World} {g : Nat} {R : List (Nat × Obj)} {d : DV} {W : World} (h : DH w0 g R d W) (at_ : Int) (K : Option Addr) (kn kc : Nat) (b : List UInt8) (hb : Bs W K kn kc b) (hK : Free w0 R K kn) (hmk : d.row.length + kn ≤ 1000000) (h0 : 0 ≤ d.ops) (h1 : d.ops ≤ 1000000) (h3 : d.fuse ≤ 9223372036854775807) :
    Calls Try.prog 76 #[.pointer (some ⟨g, 0, none⟩), .int .i64 at_, .slice K kn kc] W fun e w' => e = .returned (.int .i64 (writeE d at_ b)) ∧ DH w0 g R (writeD d at_ b) w' := by
  have hok := writeD_ok h.ok at_ b
  have hnn := writeD_nD d at_ b
  obtain ⟨A, c, B, e, h⟩ := h
  have hbl := hb.len
  have hkl := hb.lim
  by_cases hE : wrE d (nD d) at_ b.length = 0
  · have hv : writeE d at_ b = if d.fuse = 0 then 10 else 0 := if_pos hE
    have hD : writeD d at_ b = opD { d with row := d.row ++ segs at_.toNat b (b.length / 64) } := if_pos hE
    rw [hv]
    rw [hbl] at hE hD
    obtain ⟨_, _, hp, _, _⟩ := wrE_ok hE
    refine (write_go _ g A _ c B _ e d at_ K kn kc b W h.dm h.ok hb hE (h.free hK hp) hmk h0 h1 h3).mono ?_
    rintro e1 w1 ⟨rfl, B1, e2, hm, hf, hnb⟩
    refine ⟨rfl, A, c, B1, e2, h.to (d1 := writeD d at_ b) (by rw [hD]; exact hm) hnn.symm ?_ hok hf (.inl rfl) hnb⟩
    rw [hD]
    show _ = (d.row ++ segs at_.toNat b (kn / 64)).length
    rw [List.length_append, segs_len]
  · have hv : writeE d at_ b = wrE d (nD d) at_ b.length := if_neg hE
    have hD : writeD d at_ b = d := if_neg hE
    rw [hv, hD, hbl]
    rw [hbl] at hE
    cases hd : d.down with
    | true =>
      rw [show wrE d (nD d) at_ kn = 10 from if_pos hd]
      refine (write_down _ g A _ c B _ e d at_ K kn kc W h.dm hd hkl).mono ?_
      rintro e1 w1 ⟨rfl, rfl⟩
      exact ⟨rfl, A, c, B, e, h⟩
    | false =>
      by_cases hm : kn / 64 = 0 ∨ kn % 64 ≠ 0
      · rw [show wrE d (nD d) at_ kn = 1 from (if_neg (by rw [hd]; decide)).trans (if_pos hm)]
        refine (write_arg _ g A _ c B _ e d at_ K kn kc W h.dm hd hkl hm).mono ?_
        rintro e1 w1 ⟨rfl, rfl⟩
        exact ⟨rfl, A, c, B, e, h⟩
      · cases hh : hasB (nD d) at_ ((kn / 64 : Nat) : Int) with
        | true => exact absurd ((if_neg (by rw [hd]; decide)).trans ((if_neg hm).trans (if_pos hh))) hE
        | false =>
          rw [show wrE d (nD d) at_ kn = 11 from (if_neg (by rw [hd]; decide)).trans ((if_neg hm).trans (if_neg (by rw [hh]; decide)))]
          refine (write_range _ g A _ c B _ e d at_ K kn kc W h.dm hd hkl hm hh).mono ?_
          rintro e1 w1 ⟨rfl, rfl⟩
          exact ⟨rfl, A, c, B, e, h⟩
theorem sync_h {w0 : World} {g : Nat} {R : List (Nat × Obj)} {d : DV} {W : World} (h : DH w0 g R d W) (h0 : 0 ≤ d.ops) (h1 : d.ops ≤ 1000000) (h3 : d.fuse ≤ 9223372036854775807) :
    Calls Try.prog 75 #[.pointer (some ⟨g, 0, none⟩)] W fun e w' => e = .returned (.int .i64 (syncE d)) ∧ DH w0 g R (syncD d) w' := by
  have hok := syncD_ok h.ok
  obtain ⟨A, c, B, e, h⟩ := h
  cases hd : d.down with
  | true =>
    rw [show syncE d = 10 from if_pos hd, show syncD d = d from if_pos hd]
    refine (sync_down _ g A _ c B _ e d W h.dm hd).mono ?_
    rintro e1 w1 ⟨rfl, rfl⟩
    exact ⟨rfl, A, c, B, e, h⟩
  | false =>
    have hnd : ¬ d.down = true := by rw [hd]; decide
    by_cases hf : d.fuse = 0
    · rw [show syncE d = 10 from (if_neg hnd).trans (if_pos hf)]
      have hD : syncD d = opD d := (if_neg hnd).trans (if_pos hf)
      refine (sync_fuse _ g A _ c B _ e d W h.dm hd h0 h1 hf).mono ?_
      rintro e1 w1 ⟨rfl, hm, ho⟩
      exact ⟨rfl, A, c, B, e, h.to (d1 := syncD d) (by rw [hD]; exact hm) hok.2.symm (by rw [hD]; rfl) hok.1 (Fr.of_only ho) (.inl rfl) (.inl rfl)⟩
    · rw [show syncE d = 0 from (if_neg hnd).trans (if_neg hf)]
      have hD : syncD d = { opD d with l := seenL d.l d.row, row := [] } := (if_neg hnd).trans (if_neg hf)
      refine (sync_ok _ g A _ c B _ e d W h.dm h.ok hd h0 h1 h3 hf).mono ?_
      rintro e1 w1 ⟨rfl, A1, c1, hm, hfr, ha⟩
      exact ⟨rfl, A1, c1, none, 0, h.to (d1 := syncD d) (by rw [hD]; exact hm) hok.2.symm (by rw [hD]; rfl) hok.1 hfr ha (.inr fun k q => by cases q)⟩
theorem newD_ok (L : Int) (h0 : 0 ≤ L) (h1 : L ≤ 65536) (l : List UInt8) (n : Nat) (hl : l.length = n * 64) : (⟨L, l, [], 0, -1, false⟩ : DV).ok n := ⟨hl, (fun p hp => by cases hp), h0, h1, (by show (-1 : Int) ≤ -1; omega)⟩
theorem limI_le (k : Int) : 0 ≤ limI k ∧ limI k ≤ 65536 := by unfold limI; omega
theorem load_h {w0 : World} (K : Option Addr) (kn kc : Nat) (xs : List UInt8) (limit : Int) (w : World) (hb : Bs w K kn kc xs) (hkn : kn ≤ 1000000) (hw : Below w0.heap.size w0 w) :
    Calls Try.prog 18 #[.slice K kn kc, .int .i64 limit] w fun e' w' => ∃ g, e' = .returned (.pointer (some ⟨g, 0, none⟩)) ∧ DH w0 g [] ⟨limI limit, loadL xs (cntL kn (limI limit)), [], 0, -1, false⟩ w' ∧ Below w.heap.size w w' := by
  refine (load_any K kn kc xs limit w hb hkn).mono ?_
  rintro e1 w1 ⟨g, rfl, A, c, hm, hB⟩
  have hn := nD_of (d := ⟨limI limit, loadL xs (cntL kn (limI limit)), [], 0, -1, false⟩) (loadL_len xs (cntL kn (limI limit)))
  have hok := newD_ok _ (limI_le limit).1 (limI_le limit).2 _ _ (loadL_len xs (cntL kn (limI limit)))
  refine ⟨g, rfl, ⟨A, c, none, 0, ?_, by rw [hn]; exact hok, (fun p hp => by cases hp), (fun p hp => by cases hp), below_then hw hw.size hB⟩, hB⟩
  rw [hn]
  exact ⟨hm.row, Nat.le_trans hw.size hm.lo, hm.sl.mono hw.size, hm.sr.mono hw.size, hm.na, hm.nb, hm.ab⟩
theorem new_h {w0 : World} (limit : Int) (w : World) (hw : Below w0.heap.size w0 w) :
    Calls Try.prog 12 #[.int .i64 limit] w fun e' w' => ∃ g, e' = .returned (.pointer (some ⟨g, 0, none⟩)) ∧ DH w0 g [] ⟨limI limit, [], [], 0, -1, false⟩ w' ∧ Below w.heap.size w w' := by
  refine (new_any limit w).mono ?_
  rintro e1 w1 ⟨g, rfl, hm, hB⟩
  have hok := newD_ok _ (limI_le limit).1 (limI_le limit).2 [] 0 rfl
  have hn := nD_of (d := ⟨limI limit, [], [], 0, -1, false⟩) (n := 0) rfl
  exact ⟨g, rfl, ⟨none, 0, none, 0, (by rw [hn]; exact ⟨hm.row, Nat.le_trans hw.size hm.lo, hm.sl.mono hw.size, hm.sr.mono hw.size, hm.na, hm.nb, hm.ab⟩), by rw [hn]; exact hok, (fun p hp => by cases hp), (fun p hp => by cases hp), below_then hw hw.size hB⟩, hB⟩
end Go.Proofs.Ythhalmjapiempaa
