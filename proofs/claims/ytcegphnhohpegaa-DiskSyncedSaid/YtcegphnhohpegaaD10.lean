/- The walk of a disk's Write, where it writes. -/
import Derived.Test.YtcegphnhohpegaaD9
import Derived.Test.YtcegphnhohpegaaQ1
import Derived.Great.BuildSlice
set_option linter.unusedVariables false
set_option linter.unusedSimpArgs false
namespace Go.Proofs.Ytcegphnhohpegaa
open Go.RowKit

/-- The sectors of so many bytes, from a place on. -/
def segs (at_ : Nat) (b : List UInt8) : Nat → List (Nat × List UInt8)
  | 0 => []
  | k + 1 => segs at_ b k ++ [(at_ + k, (b.drop (k * 64)).take 64)]
/-- Why a Write says no at once; 0: it does not. -/
def wrE (d : DV) (n : Nat) (at_ : Int) (len : Nat) : Int :=
  if d.down = true then 10 else if len / 64 = 0 ∨ len % 64 ≠ 0 then 1 else if hasB n at_ ((len / 64 : Nat) : Int) = true then 0 else 11
theorem rem64 (n : Nat) : ((n : Int)).tmod 64 = ((n % 64 : Nat) : Int) := (Int.ofNat_tmod n 64).symm
theorem div64 (n : Nat) : ((n : Int)).tdiv 64 = ((n / 64 : Nat) : Int) := (Int.ofNat_tdiv n 64).symm
theorem run_build59 (x : Int) (s : List UInt8) (h : s.length = 64) (w : World) : (Instr.build 59 #[(0, .int .i64 x), (1, .agg (u8v s).toArray)]).run Try.prog w = .ok (.agg (.int .i64 x :: u8v s).toArray) w := by
  refine run_build w 59 _ _ ?_
  have e : Try.prog.built 59 [(0, .int .i64 x), (1, .agg (u8v s).toArray)] = Instr.fill (#[(0, 1), (1, 64)][·]?) z65 [(0, .int .i64 x), (1, .agg (u8v s).toArray)] := by kernel_rfl
  have hz : z65.size = 65 := by kernel_rfl
  refine e.trans ?_
  rw [fill_one _ _ 0 0 1 _ _ rfl rfl (by omega), fill_one _ _ 1 1 64 _ _ rfl (by show (u8v s).toArray.size = 64; rw [List.size_toArray, u8v_length, h]) (by simp [Value.cells, hz])]
  rw [Instr.fill]
  have hl : (z65.toList.drop 1).length = 64 := by rw [List.length_drop, Array.length_toList, hz]
  simp [Value.cells, hl]
  exact Nat.le_of_eq hz
/-- The cells of a segment. -/
theorem seg_one (x : Int) (s : List UInt8) : ∀ v, v ∈ Value.int .i64 x :: u8v s → v.oneCell' = true := fun v hv => by
  rcases List.mem_cons.1 hv with rfl | hv
  · rfl
  · exact u8v_one _ v hv
theorem wrv_snoc (r : List (Nat × List UInt8)) (p : Nat) (s : List UInt8) : wrv (r ++ [(p, s)]) = wrv r ++ (.int .i64 (p : Int) :: u8v s) := by
  unfold wrv
  rw [List.flatMap_append]
  simp
theorem New.mono {w w1 : World} {A A1 : Option Addr} (h : New w1 A A1) (hs : w.heap.size ≤ w1.heap.size) : New w A A1 := h.imp id fun k i e => by have := k i e; omega
theorem DM.sz {w : World} {base g n c m e : Nat} {A B : Option Addr} {d : DV} (h : DM w base g A n c B m e d) : base < w.heap.size := by
  have := (Array.getElem?_eq_some_iff.1 h.row).1
  have := h.lo
  omega
/-- A disk of which one write more is held. -/
theorem DM.wrote {w w1 : World} {base g n c m e : Nat} {A B B2 : Option Addr} {e2 : Nat} {d : DV} (p : Nat × List UInt8) {vs : List Value} (h : DM w base g A n c B m e d) (hg : Grw B w w1) (hO : Oc w1 base 59 65 B2 (m + 1) e2 (wrv d.row ++ vs)) (hat : B2 = B ∨ B2 = some ⟨w.heap.size, 0, none⟩) (hp : wrv (d.row ++ [p]) = wrv d.row ++ vs) :
    w1.heap[g]? = some (.cells #[.int .i64 d.limit, .slice A n c, .slice B m e, .int .i64 d.ops, .int .i64 d.fuse, .bool d.down] 52) ∧
    DM (w1.setCell ⟨g, 2, none⟩ (.slice B2 (m + 1) e2)) base g A n c B2 (m + 1) e2 { d with row := d.row ++ [p] } ∧ Fr g A B w (w1.setCell ⟨g, 2, none⟩ (.slice B2 (m + 1) e2)) ∧ New w B B2 := by
  have hgl := (Array.getElem?_eq_some_iff.1 h.row).1
  have ho := (OnlyB.refl g w1).set 2 (.slice B2 (m + 1) e2)
  have hr1 := (hg.block g hgl (fun q => h.nb g q rfl)).trans h.row
  have hAl : ∀ j, A = some ⟨j, 0, none⟩ → j < w.heap.size := fun j e => by
    rcases h.sl.addr with q | ⟨i, q, _, q2⟩
    · rw [q] at e
      cases e
    · rw [q] at e
      injection e with e
      injection e with e
      omega
  have nb2 : ∀ k, B2 = some ⟨k, 0, none⟩ → k ≠ g := fun k q => by
    rcases hat with rfl | rfl
    · exact h.nb k q
    · injection q with q
      injection q with q
      omega
  have ab2 : ∀ k j, A = some ⟨k, 0, none⟩ → B2 = some ⟨j, 0, none⟩ → k ≠ j := fun k j q r => by
    rcases hat with rfl | rfl
    · exact h.ab k j q r
    · injection r with r
      injection r with r
      have := hAl k q
      omega
  have hnew : New w B B2 := hat.elim (fun q => .inl q) (fun q => .inr fun i e => by rw [q] at e; injection e with e; injection e with e; omega)
  refine ⟨hr1, ⟨heap_setCell_same w1 g 2 _ _ _ hr1, h.lo, ?_, ?_, h.na, nb2, ab2⟩, (Fr.of_grw' hg).trans (Fr.of_only ho) (A1 := A) (B1 := B2) (.inl rfl) hnew, hnew⟩
  · exact (h.sl.grw hg (fun i j q r => h.ab i j q r)).only ho h.na
  · rw [hp]
    exact hO.only ho nb2
def SegS (ak : Addr) (sg : List UInt8) (w : World) : Prop := ∀ i v, (u8v sg)[i]? = some v → w.cell? (ak.add i) = some v
theorem SegS.blk {ak : Addr} {sg : List UInt8} {w w1 : World} (h : SegS ak sg w) (hb : w1.heap[ak.block]? = w.heap[ak.block]?) : SegS ak sg w1 := fun i v hv => by
  rw [← h i v hv]
  exact World.cell?_of_block (by rw [add_block]; exact hb)
/-- A disk that has written: its new row, an op more. -/
def WriteQ (w : World) (base g : Nat) (A : Option Addr) (n c : Nat) (B : Option Addr) (m : Nat) (d : DV) (at_ : Int) (b : List UInt8) (q : Nat) (w' : World) : Prop :=
  ∃ B1 e1, DM w' base g A n c B1 (m + q) e1 (opD { d with row := d.row ++ segs at_.toNat b q }) ∧ Fr g A B w w' ∧ New w B B1
theorem opd_down (d : DV) (f : Int) (hf : d.fuse = f) : (opD d).down = (f == 0) := by rw [← hf]; rfl
set_option maxHeartbeats 8000000 in
set_option maxRecDepth 100000 in
theorem write_go (base g : Nat) (A : Option Addr) (n c : Nat) (B : Option Addr) (m e : Nat) (d : DV) (at_ : Int) (K : Option Addr) (kn kc : Nat) (b : List UInt8) (w : World) (h : DM w base g A n c B m e d) (ok : d.ok n) (hb : Bs w K kn kc b) (hE : wrE d n at_ kn = 0) (hKb : ∀ a, K = some a → a.block ≠ g ∧ A ≠ some ⟨a.block, 0, none⟩ ∧ B ≠ some ⟨a.block, 0, none⟩) (hmk : m + kn ≤ 1000000)
    (h0 : 0 ≤ d.ops) (h1 : d.ops ≤ 1000000) (h3 : d.fuse ≤ 9223372036854775807) :
    Calls Try.prog 13 #[.pointer (some ⟨g, 0, none⟩), .int .i64 at_, .slice K kn kc] w fun e' w' => e' = .returned (.int .i64 (if d.fuse = 0 then 10 else 0)) ∧ WriteQ w base g A n c B m d at_ b (kn / 64) w' := by
  obtain ⟨c0, c1, c2, c3, c4, c5⟩ := row6_cells h.row
  have hdn : d.down = false := by
    cases q : d.down with
    | false => rfl
    | true => unfold wrE at hE; rw [if_pos q] at hE; exact absurd hE (by decide)
  have hm0 : ¬ (kn / 64 = 0 ∨ kn % 64 ≠ 0) := fun q => by
    unfold wrE at hE
    rw [if_neg (by rw [hdn]; decide), if_pos q] at hE
    exact absurd hE (by decide)
  have hmm : kn % 64 = 0 := by omega
  have hhas : hasB n at_ ((kn / 64 : Nat) : Int) = true := by
    unfold wrE at hE
    rw [if_neg (by rw [hdn]; decide), if_neg hm0] at hE
    cases q : hasB n at_ ((kn / 64 : Nat) : Int) with
    | true => rfl
    | false => rw [q] at hE; exact absurd hE (by decide)
  obtain ⟨q, hq⟩ : ∃ q, kn / 64 = q := ⟨_, rfl⟩
  rw [hq] at hhas ⊢
  have hv : (kn : Int) / 64 = (q : Int) := by omega
  have hr2 : (kn : Int) % 64 = 0 := by omega
  have q0 : ((q : Int) == 0) = false := beq_eq_false_iff_ne.2 (by omega)
  rw [hdn] at c5
  have hkl := hb.lim
  have HB := Aside0.mk hb
  replace hKb := Aside0.mk hKb
  have HD := Aside0.mk h
  have HQ := Aside0.mk hq
  have OK := Aside0.mk ok
  have HH := Aside0.mk (And.intro hhas hm0)
  have HO := Aside0.mk (And.intro h0 (And.intro h1 h3))
  clear hE hdn hm0 hmm h hq hb ok hhas h0 h1 h3
  obtain ⟨rv, hrv⟩ : ∃ r : Int, (if d.fuse = 0 then 10 else 0) = r := ⟨_, rfl⟩
  rw [hrv]
  replace hrv := Aside0.mk hrv
  go_enter Try.func13, Try.ntmps13
  go_wp2_with (go_at_call 30; refine (hasd_any base g A n c B m e d at_ (q : Int) w HD.out).mono ?_; rintro e1 w1 ⟨rfl, rfl⟩; rw [HH.out.1])
  clear c0 c1 c2 c3 c4 c5
  go_loopg [33] q (fun gk v wr => ∃ (k : Nat) (B1 : Option Addr) (e1 : Nat), Aside (gk + k = q) ∧ v = .int .i64 (k : Int) ∧ Aside0 (DM wr base g A n c B1 (m + k) e1 { d with row := d.row ++ segs at_.toNat b k } ∧ Fr g A B w wr ∧ New w B B1))
  case atStart => exact ⟨0, B, e, rfl, rfl, ⟨by simpa [segs] using HD.out, Fr.refl _ _ _ _, .inl rfl⟩⟩
  case round =>
    obtain ⟨k, B1, e1, hk, rfl, hI⟩ := hrel
    have hkq : k ≤ q := by have := hk.out; omega
    rcases Nat.lt_or_ge k q with hlt | hge
    · have d1 : decide ((k : Int) < (q : Int)) = true := decide_eq_true (by omega)
      have hkn : kn = q * 64 := by have h1 := HQ.out; have h2 := HH.out.2; omega
      obtain ⟨sg, hsg⟩ : ∃ s, (b.drop (k * 64)).take 64 = s := ⟨_, rfl⟩
      have hbl := HB.out.len
      have hs64 : sg.length = 64 := by rw [← hsg, List.length_take, List.length_drop]; omega
      have hbw : Bs wr K kn kc b :=
        ⟨HB.out.len, HB.out.le, HB.out.cap, HB.out.lim, fun hn => by
          obtain ⟨ad, e, hc⟩ := HB.out.cells hn
          have hk3 := hKb.out ad e
          refine ⟨ad, e, fun j hj => ?_⟩
          have hbl := World.block_lt_of_cell? w _ (hc j hj)
          rw [add_block] at hbl
          rw [← hc j hj]
          exact World.cell?_of_block (by rw [add_block]; exact hI.out.2.1.block _ hbl hk3.1 hk3.2.1 hk3.2.2)⟩
      have hbs := (hbw.drop (k * 64) (by omega)).take 64 (by omega)
      rw [hsg] at hbs
      obtain ⟨ak, hak, hx⟩ := hbs.cells (by omega)
      have HRg := Aside0.mk (show ∀ i v, (u8v sg)[i]? = some v → wr.cell? (ak.add i) = some v from fun i v hv => by
        have hi : i < sg.length := by
          rcases Nat.lt_or_ge i sg.length with q | q
          · exact q
          · rw [List.getElem?_eq_none (by rw [u8v_length]; exact q)] at hv
            cases hv
        rw [u8v_get sg i hi] at hv
        injection hv with hv
        rw [← hv]
        exact hx i (by omega))
      have t1 : ∀ W : World, (Instr.slice 22 (.slice K kn kc) (some (.int .i64 ((k : Int) * 64))) none none).run Try.prog W = .ok (.slice (some ak) (kn - k * 64) (kc - k * 64)) W := fun W => by
        rw [sl8_l W K kn kc .i64 ((k : Int) * 64) (by omega) (by omega), show ((k : Int) * 64).toNat = k * 64 by omega, hak]
      have t2 : ∀ W : World, (Instr.arrayAt 54 (.slice (some ak) (kn - k * 64) (kc - k * 64))).run Try.prog W = .ok (.pointer (some ak)) W := fun W => run_arrayAt W 54 _ 64 _ _ _ Try.underlying54 (by omega)
      have t3 := run_build59 (at_ + (k : Int)) sg hs64
      have t4 : ∀ W : World, (Instr.buildSlice 50 1 #[(0, .agg (.int .i64 (at_ + (k : Int)) :: u8v sg).toArray)]).run Try.prog W = .ok (.slice (some ⟨W.heap.size, 0, none⟩) 1 1) (W.alloc (.cells (.int .i64 (at_ + (k : Int)) :: u8v sg).toArray 59)) := fun W => by
        obtain ⟨i0, hi, hzz⟩ := Option.map_eq_some_iff.1 info59
        simp only [Prod.mk.injEq] at hzz
        refine run_slice1 50 59 _ i0 (.agg z65) Try.underlying50 hi hzz.1 (by rw [hzz.2.1]; omega) (by rw [hzz.2.1]; omega) ?_ W
        rw [hzz.2.1, List.size_toArray, List.length_cons, u8v_length, hs64]
      have HI5 := Aside0.mk (show (Try.prog.info? 54).map (·.size) = some (u8v sg).length from by rw [u8v_length, hs64]; kernel_rfl)
      have hat : 0 ≤ at_ ∧ at_ ≤ (n : Int) := by have := of_decide_eq_true HH.out.1; exact ⟨this.1, this.2.2.1⟩
      have hnl := HD.out.sl.lim
      have iw1 : IntKind.i64.wrap ((k : Int) * 64) = (k : Int) * 64 := IntWalk.i64_in _ (by omega)
      have iw2 : IntKind.i64.wrap (at_ + (k : Int)) = at_ + (k : Int) := IntWalk.i64_in _ (by omega)
      obtain ⟨z0, z1, z2, z3, z4, z5⟩ := row6_cells hI.out.1.row
      have hkb : ak.block < wr.heap.size ∧ ak.block ≠ g ∧ B1 ≠ some ⟨ak.block, 0, none⟩ := by
        obtain ⟨a0, ha0, hab⟩ : ∃ a0, K = some a0 ∧ ak.block = a0.block := by
          have e := hak
          unfold cutA at e
          split at e
          · exact ⟨ak, e, rfl⟩
          · rcases K with _ | a0
            · cases e
            · injection e with e
              exact ⟨a0, rfl, by rw [← e, add_block]⟩
        have k3 := hKb.out a0 ha0
        have hlw : a0.block < w.heap.size := by
          obtain ⟨ad, e, hc⟩ := HB.out.cells (by omega)
          have e2 : ad = a0 := Option.some.inj (e.symm.trans ha0)
          have := World.block_lt_of_cell? w _ (hc 0 (by omega))
          rw [add_block, e2] at this
          exact this
        rw [hab]
        exact ⟨Nat.lt_of_lt_of_le hlw hI.out.2.1.size, k3.1, hI.out.2.2.ne _ hlw k3.2.2⟩
      have KS := Aside0.mk hkb
      obtain ⟨W1, hW1⟩ : ∃ X, wr.drew.alloc (.cells (.int .i64 (at_ + (k : Int)) :: u8v sg).toArray 59) = X := ⟨_, rfl⟩
      have hbel1 : Below wr.heap.size wr W1 := by rw [← hW1]; exact (below_drew (Below.refl _ wr)).alloc (Nat.le_refl _) _
      have HD1 := Aside0.mk (hI.out.1.below hbel1)
      have HN1 := Aside0.mk (show W1.rangeAt wr.drew.heap.size 0 (.int .i64 (at_ + (k : Int)) :: u8v sg) by rw [← hW1]; exact lit_range wr.drew _ _ _ rfl)
      have HS0 := Aside0.mk (show SegS ak sg wr.drew ∧ wr.drew.cell? ⟨g, 2, none⟩ = some (.slice B1 (m + k) e1) from ⟨HRg.out, z2⟩)
      have HS1 := Aside0.mk (show SegS ak sg W1 ∧ W1.cell? ⟨g, 2, none⟩ = some (.slice B1 (m + k) e1) from ⟨fun i v hv => cell_below hbel1 (HRg.out i v hv), cell_below hbel1 z2⟩)
      have HB1 := Aside0.mk hbel1
      have HT := Aside0.mk (t4 wr.drew)
      rw [hW1] at HT
      have AT := Aside0.mk (show ((at_.toNat + k : Nat) : Int) = at_ + (k : Int) by omega)
      have SG := Aside0.mk hsg
      clear hkn hat hnl hkb t4 hbel1 z0 z1 z3 z4 z5 hx hbs hbw hsg
      go_upto_region 11 with fail
      refine wp_region_M (fun j => j == 4 || j == 13 || j == 15) (fun w' => SegS ak sg w' ∧ w'.cell? ⟨g, 2, none⟩ = some (.slice B1 (m + k) e1)) (by kernel_rfl) ?_
      refine wpAnyM_take0 (i := 0) (v := ?_) (by simp only [List.getElem?_toArray, List.getElem?_cons_succ, List.getElem?_cons_zero]; rfl) (by kernel_rfl) (by kernel_rfl) (by kernel_rfl) (by rfl) (by exact fun _ _ _ h => h) (Or.inl ⟨by rfl, ?_⟩) ?_
      rotate_left
      · (intro w' _; go_simp; try with_reducible rfl)
      try simp only [Act.put, List.setIfInBounds_toArray, List.set_cons_zero, List.set_cons_succ]
      refine wpAnyM_take0 (i := 1) (v := ?_) (by simp only [List.getElem?_toArray, List.getElem?_cons_succ, List.getElem?_cons_zero]; rfl) (by kernel_rfl) (by kernel_rfl) (by kernel_rfl) (by rfl) (by exact fun _ _ _ h => h) (Or.inl ⟨by rfl, ?_⟩) ?_
      rotate_left
      · (intro w' _; go_simp; try with_reducible rfl)
      try simp only [Act.put, List.setIfInBounds_toArray, List.set_cons_zero, List.set_cons_succ]
      refine wpAnyM_take0 (i := 2) (v := ?_) (by simp only [List.getElem?_toArray, List.getElem?_cons_succ, List.getElem?_cons_zero]; rfl) (by kernel_rfl) (by kernel_rfl) (by kernel_rfl) (by rfl) (by exact fun _ _ _ h => h) (Or.inl ⟨by rfl, ?_⟩) ?_
      rotate_left
      · (intro w' _; go_simp; try with_reducible rfl)
      try simp only [Act.put, List.setIfInBounds_toArray, List.set_cons_zero, List.set_cons_succ]
      refine wpAnyM_take0 (i := 3) (v := ?_) (by simp only [List.getElem?_toArray, List.getElem?_cons_succ, List.getElem?_cons_zero]; rfl) (by kernel_rfl) (by kernel_rfl) (by kernel_rfl) (by rfl) (by exact fun _ _ _ h => h) (Or.inl ⟨by rfl, ?_⟩) ?_
      rotate_left
      · (intro w' _; go_simp; try with_reducible rfl)
      try simp only [Act.put, List.setIfInBounds_toArray, List.set_cons_zero, List.set_cons_succ]
      refine wpAnyM_take0 (i := 5) (v := ?_) (by simp only [List.getElem?_toArray, List.getElem?_cons_succ, List.getElem?_cons_zero]; rfl) (by kernel_rfl) (by kernel_rfl) (by kernel_rfl) (by rfl) (by exact fun _ _ _ h => h) (Or.inl ⟨by rfl, ?_⟩) ?_
      rotate_left
      · (intro w' _; go_simp; try with_reducible rfl)
      try simp only [Act.put, List.setIfInBounds_toArray, List.set_cons_zero, List.set_cons_succ]
      refine wpAnyM_take0 (i := 6) (v := ?_) (by simp only [List.getElem?_toArray, List.getElem?_cons_succ, List.getElem?_cons_zero]; rfl) (by kernel_rfl) (by kernel_rfl) (by kernel_rfl) (by rfl) (by exact fun _ _ _ h => h) (Or.inl ⟨by rfl, ?_⟩) ?_
      rotate_left
      · (intro w' _; go_simp; try with_reducible rfl)
      try simp only [Act.put, List.setIfInBounds_toArray, List.set_cons_zero, List.set_cons_succ]
      refine wpAnyM_take0 (i := 7) (v := ?_) (by simp only [List.getElem?_toArray, List.getElem?_cons_succ, List.getElem?_cons_zero]; rfl) (by kernel_rfl) (by kernel_rfl) (by kernel_rfl) (by rfl) (by exact fun _ _ _ h => h) (Or.inl ⟨by rfl, ?_⟩) ?_
      rotate_left
      · (intro w' _; go_simp; try with_reducible rfl)
      try simp only [Act.put, List.setIfInBounds_toArray, List.set_cons_zero, List.set_cons_succ]
      refine wpAnyM_take0 (i := 8) (v := ?_) (by simp only [List.getElem?_toArray, List.getElem?_cons_succ, List.getElem?_cons_zero]; rfl) (by kernel_rfl) (by kernel_rfl) (by kernel_rfl) (by rfl) (by exact fun _ _ _ h => h) (Or.inl ⟨by rfl, ?_⟩) ?_
      rotate_left
      · (intro w' _; go_simp; try with_reducible rfl)
      try simp only [Act.put, List.setIfInBounds_toArray, List.set_cons_zero, List.set_cons_succ]
      refine wpAnyM_take0 (i := 9) (v := ?_) (by simp only [List.getElem?_toArray, List.getElem?_cons_succ, List.getElem?_cons_zero]; rfl) (by kernel_rfl) (by kernel_rfl) (by kernel_rfl) (by rfl) (by exact fun _ _ _ h => h) (Or.inl ⟨by rfl, ?_⟩) ?_
      rotate_left
      · (intro w' _; go_simp; try with_reducible rfl)
      try simp only [Act.put, List.setIfInBounds_toArray, List.set_cons_zero, List.set_cons_succ]
      refine wpAnyM_take0 (i := 10) (v := ?_) (by simp only [List.getElem?_toArray, List.getElem?_cons_succ, List.getElem?_cons_zero]; rfl) (by kernel_rfl) (by kernel_rfl) (by kernel_rfl) (by rfl) (by exact fun _ _ _ h => h) (Or.inl ⟨by rfl, ?_⟩) ?_
      rotate_left
      · (intro w' _; go_simp; try with_reducible rfl)
      try simp only [Act.put, List.setIfInBounds_toArray, List.set_cons_zero, List.set_cons_succ]
      refine wpAnyM_take0 (i := 11) (v := ?_) (by simp only [List.getElem?_toArray, List.getElem?_cons_succ, List.getElem?_cons_zero]; rfl) (by kernel_rfl) (by kernel_rfl) (by kernel_rfl) (by rfl) (by exact fun _ _ _ h => h) (Or.inl ⟨by rfl, ?_⟩) ?_
      rotate_left
      · (intro w' _; go_simp; try with_reducible rfl)
      try simp only [Act.put, List.setIfInBounds_toArray, List.set_cons_zero, List.set_cons_succ]
      refine wpAnyM_take0 (i := 12) (v := ?_) (by simp only [List.getElem?_toArray, List.getElem?_cons_succ, List.getElem?_cons_zero]; rfl) (by kernel_rfl) (by kernel_rfl) (by kernel_rfl) (by rfl) (by exact fun _ _ _ h => h) (Or.inl ⟨by rfl, ?_⟩) ?_
      rotate_left
      · (intro w' _; go_simp; try with_reducible rfl)
      try simp only [Act.put, List.setIfInBounds_toArray, List.set_cons_zero, List.set_cons_succ]
      refine wpAnyM_take (i := 13) (v := .agg (u8v sg).toArray) (by simp only [List.getElem?_toArray, List.getElem?_cons_succ, List.getElem?_cons_zero]; rfl) (by kernel_rfl) (by kernel_rfl) (by kernel_rfl) (by kernel_rfl) (by exact fun _ _ _ h => h) (yieldsIf_load_at (by rfl) 54 _ rfl ak rfl (u8v sg) _ (fun w' hw' => hw'.1) Try.underlying54 rfl HI5.out) HS0.out ?_
      try simp only [Act.put, List.setIfInBounds_toArray, List.set_cons_zero, List.set_cons_succ]
      refine wpAnyM_take0 (i := 14) (v := .agg (.int .i64 (at_ + (k : Int)) :: u8v sg).toArray) (by simp only [List.getElem?_toArray, List.getElem?_cons_succ, List.getElem?_cons_zero]; rfl) (by kernel_rfl) (by kernel_rfl) (by kernel_rfl) (by rfl) (by exact fun _ _ _ h => h) (yieldsIf_build_at (by rfl) 59 _ rfl #[(0, .int .i64 (at_ + (k : Int))), (1, .agg (u8v sg).toArray)] _ (by simp only [List.map_toArray, List.map_cons, List.map_nil]; rfl) t3) ?_
      try simp only [Act.put, List.setIfInBounds_toArray, List.set_cons_zero, List.set_cons_succ]
      refine wpAnyM_take (i := 4) (v := .slice B1 (m + k) e1) (by simp only [List.getElem?_toArray, List.getElem?_cons_succ, List.getElem?_cons_zero]; rfl) (by kernel_rfl) (by kernel_rfl) (by kernel_rfl) (by kernel_rfl) (by exact fun _ _ _ h => h) (Or.inl ⟨by rfl, ?_⟩) HS0.out ?_
      · (intro w' hSw; obtain ⟨_, hcc⟩ := hSw; go_simp)
      try simp only [Act.put, List.setIfInBounds_toArray, List.set_cons_zero, List.set_cons_succ]
      refine wpAnyM_one (i := 15) (by kernel_rfl) (by simp only [List.getElem?_toArray, List.getElem?_cons_succ, List.getElem?_cons_zero]; rfl) ?_
      with_reducible refine wpl_op (rest := []) ?_ (op_slice1 (w1 := W1) 50 1 #[(0, .tmp 50)] ?_ #[(0, .agg (.int .i64 (at_ + (k : Int)) :: u8v sg).toArray)] (.slice (some ⟨wr.drew.heap.size, 0, none⟩) 1 1) ?_ ?_ ?_)
      · rfl
      · rfl
      · (simp only [List.map_toArray, List.map_cons, List.map_nil]; rfl)
      · exact HT.out
      refine wpl_nil ⟨rfl, fun _ => HS1.out, ?_⟩
      try simp only [Act.put, List.setIfInBounds_toArray, List.set_cons_zero, List.set_cons_succ]
      refine wpAnyM_one (i := 16) (by kernel_rfl) (by simp only [List.getElem?_toArray, List.getElem?_cons_succ, List.getElem?_cons_zero]; rfl) ?_
      refine wpl_oc base (by rfl) (.tmp 40) (.tmp 51) 50 59 (.agg z65) 65 72 (by rfl) Try.underlying50 info59 rfl (by omega) (by omega) (by omega) B1 (m + k) e1 wr.drew.heap.size (wrv (d.row ++ segs at_.toNat b k)) (.int .i64 (at_ + (k : Int)) :: u8v sg) (by rfl) (by rfl) HD1.out.sr (by rw [List.length_cons, u8v_length, hs64]) HN1.out (seg_one _ _) (Nat.le_of_lt HD1.out.sz) (by omega) ?_
      intro B2 e2 w1 hO hG hA
      have HW := Aside0.mk (HD1.out.wrote (at_.toNat + k, sg) hG.out hO.out hA.out (by rw [wrv_snoc, AT.out]))
      clear hO
      refine wpl_nil ⟨rfl, fun q => absurd q (by decide), ?_⟩
      try simp only [Act.put, List.setIfInBounds_toArray, List.set_cons_zero, List.set_cons_succ]
      refine wpAnyM_take0 (i := 17) (v := ?_) (by simp only [List.getElem?_toArray, List.getElem?_cons_succ, List.getElem?_cons_zero]; rfl) (by kernel_rfl) (by kernel_rfl) (by kernel_rfl) (by rfl) (by exact fun _ _ _ h => h) (Or.inl ⟨by rfl, ?_⟩) ?_
      rotate_left
      · (intro w' _; go_simp; try with_reducible rfl)
      try simp only [Act.put, List.setIfInBounds_toArray, List.set_cons_zero, List.set_cons_succ]
      refine wpAnyM_take0 (i := 18) (v := ?_) (by simp only [List.getElem?_toArray, List.getElem?_cons_succ, List.getElem?_cons_zero]; rfl) (by kernel_rfl) (by kernel_rfl) (by kernel_rfl) (by rfl) (by exact fun _ _ _ h => h) (Or.inl ⟨by rfl, ?_⟩) ?_
      rotate_left
      · (intro w' _; go_simp; try with_reducible rfl)
      try simp only [Act.put, List.setIfInBounds_toArray, List.set_cons_zero, List.set_cons_succ]
      refine wpAnyM_one (i := 19) (by kernel_rfl) (by simp only [List.getElem?_toArray, List.getElem?_cons_succ, List.getElem?_cons_zero]; rfl) ?_
      obtain ⟨y0, y1, y2, y3, y4, y5⟩ := row6_cells HW.out.1
      have yf := fun j => Go.Joins.unfrozen_of_block HW.out.1 j
      go_wp2_with fail
      refine wpAnyM_done (by kernel_rfl) ?_ _
      clear y0 y1 y2 y3 y4 y5 yf
      go_wp2_with fail
      go_roundg (q - (k + 1))
      case measure => have := hk.out; omega
      case rel =>
        refine ⟨k + 1, B2, e2, by have := hk.out; exact (by omega : q - (k + 1) + (k + 1) = q), by go_num, ⟨?_, ?_, ?_⟩⟩
        · have := HW.out.2.1; rw [show segs at_.toNat b (k + 1) = segs at_.toNat b k ++ [(at_.toNat + k, sg)] by rw [← SG.out]; rfl, ← List.append_assoc]; exact this
        · exact (hI.out.2.1.trans (Fr.of_below HB1.out) (A1 := A) (B1 := B1) (.inl rfl) hI.out.2.2).trans HW.out.2.2.1 (.inl rfl) hI.out.2.2
        · exact hI.out.2.2.trans (w1 := wr) (New.mono HW.out.2.2.2 HB1.out.size) hI.out.2.1.size
    · obtain rfl : q = k := by omega
      have hqd : d.fuse = 0 ∨ d.fuse ≠ 0 := by omega
      rcases hqd with hf | hf
      · have hdn : (!(opD { d with row := d.row ++ segs at_.toNat b q }).down) = false := by unfold opD; simp [hf]
        have HF := Aside0.mk hf
        have RV := hrv.out
        rw [if_pos hf] at RV
        subst RV
        clear hf
        go_wp2_with (go_at_call 27; refine (op_any base g A n c B1 (m + q) e1 _ wr hI.out.1 HO.out.1 HO.out.2.1 OK.out.fuse HO.out.2.2).mono ?_; rintro e3 w3 ⟨rfl, hM, hO⟩; rw [hdn]; (have HM := Aside0.mk (And.intro hM hO)); clear hM hO)
        go_ret
        exact ⟨rfl, B1, e1, HM.out.1, hI.out.2.1.trans (Fr.of_only HM.out.2) (.inl rfl) hI.out.2.2, hI.out.2.2⟩
      · have hdn : (!(opD { d with row := d.row ++ segs at_.toNat b q }).down) = true := by unfold opD; simp [hf]
        have RV := hrv.out
        rw [if_neg hf] at RV
        subst RV
        clear hf
        go_wp2_with (go_at_call 27; refine (op_any base g A n c B1 (m + q) e1 _ wr hI.out.1 HO.out.1 HO.out.2.1 OK.out.fuse HO.out.2.2).mono ?_; rintro e3 w3 ⟨rfl, hM, hO⟩; rw [hdn]; (have HM := Aside0.mk (And.intro hM hO)); clear hM hO)
        go_ret
        exact ⟨rfl, B1, e1, HM.out.1, hI.out.2.1.trans (Fr.of_only HM.out.2) (.inl rfl) hI.out.2.2, hI.out.2.2⟩
end Go.Proofs.Ytcegphnhohpegaa
