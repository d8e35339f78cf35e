/- The walk of a disk's Crash. -/
import Derived.Test.YtcegphnhohpegaaD7
import Derived.StillTailTactics
import Derived.Deep.DeepCutAuto
set_option linter.unusedVariables false
set_option linter.unusedSimpArgs false
namespace Go.Proofs.Ytcegphnhohpegaa
open Go.RowKit

/-- A slice of truths, read. -/
structure Rb (w : World) (A : Option Addr) (n c : Nat) (ks : List Bool) : Prop where
  len : ks.length = n
  le : n ≤ c
  cap : c ≤ 9223372036854775807
  lim : n ≤ 140737488355328
  cells : 0 < n → ∃ ad, A = some ad ∧ ∀ j, j < n → w.cell? (ad.add j) = some (.bool (ks.getD j false))
/-- Durable bytes, over which those writes stand that are kept, from the k-th on. -/
def crL (keep : List Bool) : Nat → List UInt8 → List (Nat × List UInt8) → List UInt8
  | _, l, [] => l
  | k, l, p :: r => crL keep (k + 1) (if 0 < keep.length ∧ keep.getD (k % keep.length) false = true then putL l p.2 (64 * p.1) else l) r
theorem crL_snoc (keep : List Bool) (k : Nat) (l : List UInt8) (r : List (Nat × List UInt8)) (p : Nat × List UInt8) : crL keep k l (r ++ [p]) = (if 0 < keep.length ∧ keep.getD ((k + r.length) % keep.length) false = true then putL (crL keep k l r) p.2 (64 * p.1) else crL keep k l r) := by
  induction r generalizing k l with
  | nil => rfl
  | cons q r ih =>
    show crL keep (k + 1) _ (r ++ [p]) = _
    rw [ih, List.length_cons, show k + 1 + r.length = k + (r.length + 1) by omega]
    rfl
def CrashQ (w : World) (base g n : Nat) (A : Option Addr) (c : Nat) (B : Option Addr) (d : DV) (keep : List Bool) (w' : World) : Prop :=
  DM w' base g A n c none 0 0 { d with l := crL keep 0 d.l d.row, row := [], down := false, fuse := -1 } ∧ Fr g A B w w'
/-- A disk of which one sector is another. -/
theorem DM.put {w : World} {base g n c m e ga : Nat} {B : Option Addr} {d : DV} (h : DM w base g (some ⟨ga, 0, none⟩) n c B m e d) (i : Nat) (hi : i < n) (s : List UInt8) (hs : s.length = 64) :
    DM (w.setCells ga (i * 64) (u8v s)) base g (some ⟨ga, 0, none⟩) n c B m e { d with l := putL d.l s (64 * i) } ∧ OnlyB ga w (w.setCells ga (i * 64) (u8v s)) := by
  obtain ⟨k1, k2⟩ := h.sl.put i hi (u8v s) (by rw [u8v_length, hs]) (u8v_one s)
  rw [u8v_put _ _ _ _ hs, Nat.mul_comm i 64] at k1
  have hne := h.na ga rfl
  have hgl := (Array.getElem?_eq_some_iff.1 h.row).1
  have k1' : Oc (w.setCells ga (i * 64) (u8v s)) base 54 64 (some ⟨ga, 0, none⟩) n c (u8v (putL d.l s (64 * i))) := by rw [Nat.mul_comm i 64]; exact k1
  exact ⟨⟨(k2.block g hgl hne.symm).trans h.row, h.lo, k1', h.sr.only k2 (fun j q => (h.ab ga j rfl q).symm), h.na, h.nb, h.ab⟩, k2⟩
theorem DM.crash {w : World} {base g n c m e : Nat} {A B : Option Addr} {d : DV} (h : DM w base g A n c B m e d) :
    DM (((w.setCell ⟨g, 2, none⟩ (.slice none 0 0)).setCell ⟨g, 5, none⟩ (.bool false)).setCell ⟨g, 4, none⟩ (.int .i64 (-1))) base g A n c none 0 0 { d with row := [], down := false, fuse := -1 } := by
  have ho := (((OnlyB.refl g w).set 2 (.slice none 0 0)).set 5 (.bool false)).set 4 (.int .i64 (-1))
  exact ⟨heap_setCell_same _ g 4 _ _ _ (heap_setCell_same _ g 5 _ _ _ (heap_setCell_same w g 2 _ _ _ h.row)), h.lo, h.sl.only ho h.na, Oc.nil _ _ _ _, h.na, fun _ q => (by cases q), fun _ _ _ q => (by cases q)⟩
theorem wpStill_load {P : Program} {ops : Array Oper} {rest : List Oper} {o : Oper} {a : Act} {w : World} {Q : Act → Prop} (hw : Region.wanted o (yielded ops a.tmps) = true) (ty : TypeId) (x : Operand) (ho : o.op = .load ty x)
    (b f : Nat) (hx : a.eval x = .pointer (some ⟨b, f, none⟩)) (cs : List Value) (d : TypeDesc) (hc : w.rangeAt b f cs)
    (hu : P.underlying ty = some d) (hd : d.isRow = true) (hi : (P.info? ty).map (·.size) = some cs.length) (h : wpStill P ops w Q rest (a.put o.dst (.agg cs.toArray))) : wpStill P ops w Q (o :: rest) a := by
  unfold wpStill
  rw [if_pos hw]
  unfold Oper.still execOp
  simp only [ho, hx, Instr.loadAt, Instr.sureAddr, Sem.run_bind, Sem.run_pure, Result.andThen_ok, run_loadVar_mid w b f ty cs d hc hu hd hi, Oper.stillUpon_value]
  exact h
set_option maxHeartbeats 8000000 in
set_option maxRecDepth 100000 in
theorem crash_any (base g : Nat) (A : Option Addr) (n c : Nat) (B : Option Addr) (m e : Nat) (d : DV) (K : Option Addr) (kn kc : Nat) (ks : List Bool) (w : World) (h : DM w base g A n c B m e d) (ok : d.ok n) (hK : Rb w K kn kc ks)
    (hk1 : ∀ ad, K = some ad → 0 < kn → ad.block ≠ g ∧ A ≠ some ⟨ad.block, 0, none⟩ ∧ B ≠ some ⟨ad.block, 0, none⟩) :
    Calls Try.prog 14 #[.pointer (some ⟨g, 0, none⟩), .slice K kn kc] w fun e' w' => e' = .returned (.tuple #[]) ∧ CrashQ w base g n A c B d ks w' := by
  have HD := Aside0.mk h
  have hrl := h.rows ok
  have hl0 := h.sl.lim
  have hl1 := h.sr.lim
  have HK := Aside0.mk (And.intro hK hk1)
  have hkl := hK.lim
  obtain ⟨c0, c1, c2, c3, c4, c5⟩ := row6_cells h.row
  clear h hK hk1
  go_enter Try.func14, Try.ntmps14
  go_wp2_with fail
  clear c0 c1 c2 c3 c4 c5
  go_loopg [11] m (fun gk v wr => ∃ j : Nat, Aside (gk + j = m) ∧ v = .int .i64 (j : Int) ∧ Aside0 (DM wr base g A n c B m e { d with l := crL ks 0 d.l (d.row.take j) } ∧ Fr g A B w wr))
  case atStart => exact ⟨0, rfl, rfl, ⟨HD.out, Fr.refl _ _ _ _⟩⟩
  case round =>
    obtain ⟨j, hk, rfl, hI⟩ := hrel
    have hjm : j ≤ m := by have := hk.out; omega
    rcases Nat.lt_or_ge j m with hlt | hge
    · have d1 : decide ((j : Int) < (m : Int)) = true := decide_eq_true (by omega)
      obtain ⟨gb, rfl, hgb0, hgb1⟩ := HD.out.sr.head (by omega)
      have hel := wrv_at d.row (fun p hp => (ok.each p hp).1) j (by omega)
      obtain ⟨p, hp⟩ : ∃ p, d.row[j]'(by omega) = p := ⟨_, rfl⟩
      rw [hp] at hel
      have hpm : p ∈ d.row := by rw [← hp]; exact List.getElem_mem _
      have hpo := ok.each p hpm
      have HR := Aside0.mk (show wr.rangeAt gb (j * 65) (wrc p) from by
        have := (hI.out.1.sr.at_ j hlt).1
        rw [hel] at this
        exact this)
      have HP := Aside0.mk (And.intro hpm (And.intro hpo hp))
      clear hel hp hpm hpo
      have hz := zero59
      obtain ⟨ga, rfl, hga0, hga1⟩ := HD.out.sl.head (by have := HP.out.2.1.2; omega)
      have hp1 := HP.out.2.1.2
      have HB2 := Aside0.mk (box_new wr z65 59 (wrc p) (by rw [wrc_len HP.out.2.1.1]; kernel_rfl))
      have HL2 := Aside0.mk (show (u8v p.2).length = 64 by rw [u8v_length]; exact HP.out.2.1.1)
      have hsz : (wrc p).toArray.size = 65 := by rw [List.size_toArray, wrc_len HP.out.2.1.1]
      have HT2 := Aside0.mk (show (wr.alloc (.cells z65 59)).there wr.heap.size 0 (wrc p).toArray.size from by rw [hsz]; exact there_new wr z65 59 65 (by kernel_rfl))
      have HI2 := Aside0.mk (show (Try.prog.info? 59).map (·.size) = some (wrc p).toArray.size from by rw [hsz]; kernel_rfl)
      have HI3 := Aside0.mk (show (Try.prog.info? 59).map (·.size) = some (wrc p).length from by rw [wrc_len HP.out.2.1.1]; kernel_rfl)
      obtain ⟨W1, hW1⟩ : ∃ X, (wr.alloc (.cells z65 59)).setCells wr.heap.size 0 (wrc p) = X := ⟨_, rfl⟩
      rw [hW1] at HB2
      have x0 : W1.cell? ⟨wr.heap.size, 0, none⟩ = some (.int .i64 (p.1 : Int)) := by rw [cell_of_row _ _ _ _ _ _ HB2.out.1]; rfl
      have HR3 := Aside0.mk (range_row HB2.out.1 1 (u8v p.2) (by rw [HL2.out]; show List.take 64 (u8v p.2) = _; exact List.take_of_length_le (by rw [HL2.out]; exact Nat.le_refl _)))
      have HD1 := Aside0.mk (hI.out.1.below HB2.out.2)
      have hsz2 : (u8v p.2).toArray.size = 64 := by rw [List.size_toArray, HL2.out]
      have HT3 := Aside0.mk (show W1.there ga (p.1 * 64) (u8v p.2).toArray.size from by rw [hsz2]; exact (HD1.out.sl.at_ p.1 hp1).2)
      have HI4 := Aside0.mk (show (Try.prog.info? 54).map (·.size) = some (u8v p.2).toArray.size from by rw [hsz2]; kernel_rfl)
      have HI5 := Aside0.mk (show (Try.prog.info? 54).map (·.size) = some (u8v p.2).length from by rw [HL2.out]; kernel_rfl)
      obtain ⟨y0, y1, y2, y3, y4, y5⟩ := row6_cells HD1.out.row
      have HF := Aside0.mk (hI.out.2.trans (Fr.of_below HB2.out.2) (.inl rfl) (.inl rfl))
      have hsn : crL ks 0 d.l (d.row.take (j + 1)) = (if 0 < ks.length ∧ ks.getD (j % ks.length) false = true then putL (crL ks 0 d.l (d.row.take j)) p.2 (64 * p.1) else crL ks 0 d.l (d.row.take j)) := by
        rw [List.take_succ_eq_append_getElem (by omega), HP.out.2.2, crL_snoc, List.length_take, Nat.min_eq_left (by omega), Nat.zero_add]
      have HSN := Aside0.mk hsn
      clear hsz hsz2 hsn
      by_cases hk0 : kn = 0
      · have HK0 := Aside0.mk (show ¬ (0 < ks.length ∧ ks.getD (j % ks.length) false = true) from fun q => by have := q.1; rw [HK.out.1.len] at this; omega)
        subst hk0
        go_wp2_with (first
          | (with_reducible refine wpList_load_mid rfl 59 _ rfl gb (j * 65) rfl (wrc p) _ HR.out Try.underlying59 rfl HI3.out ?_)
          | (with_reducible refine wpList_store_mid rfl 59 _ _ rfl wr.heap.size 0 (wrc p).toArray rfl rfl HT2.out HI2.out (all_oneCell_toArray (wrc_one p)) ?_)
          | (with_reducible refine wpList_load_mid rfl 54 _ rfl wr.heap.size 1 rfl (u8v p.2) _ HR3.out Try.underlying54 rfl HI5.out ?_)
          | (with_reducible refine wpList_store_mid rfl 54 _ _ rfl ga (p.1 * 64) (u8v p.2).toArray rfl rfl HT3.out HI4.out (all_oneCell_toArray (u8v_one p.2)) ?_))
        go_roundg (m - (j + 1))
        case measure => have := hk.out; omega
        case rel =>
          refine ⟨j + 1, (by show m - (j + 1) + (j + 1) = m; omega), by go_num, ⟨?_, HF.out⟩⟩
          rw [HSN.out, if_neg HK0.out]
          exact HD1.out
      · have d2 : decide (0 < (kn : Int)) = true := decide_eq_true (by omega)
        have hmod : j % kn < kn := Nat.mod_lt _ (by omega)
        obtain ⟨ad, rfl, hx⟩ := HK.out.1.cells (by omega)
        have hap := HK.out.2 ad rfl (by omega)
        have hW : ∀ i b, W1.cell? (ad.add i) = some b ↔ W1.cell? (ad.add i) = some b := fun _ _ => Iff.rfl
        have hcell : W1.cell? (ad.add (j % kn)) = some (.bool (ks.getD (j % kn) false)) := by
          have h1 := hx (j % kn) hmod
          have hbl := World.block_lt_of_cell? w _ h1
          rw [← h1]
          rw [add_block] at hbl
          exact World.cell?_of_block (by rw [add_block]; exact HF.out.block _ hbl hap.1 hap.2.1 hap.2.2)
        clear hW
        have hrem : ((j : Int)).tmod (kn : Int) = ((j % kn : Nat) : Int) := (Int.ofNat_tmod j kn).symm
        cases hb : ks.getD (j % kn) false with
        | false =>
          rw [hb] at hcell
          go_wp2_with (first
            | (with_reducible refine wpList_load_mid rfl 59 _ rfl gb (j * 65) rfl (wrc p) _ HR.out Try.underlying59 rfl HI3.out ?_)
            | (with_reducible refine wpList_store_mid rfl 59 _ _ rfl wr.heap.size 0 (wrc p).toArray rfl rfl HT2.out HI2.out (all_oneCell_toArray (wrc_one p)) ?_)
            | (with_reducible refine wpList_load_mid rfl 54 _ rfl wr.heap.size 1 rfl (u8v p.2) _ HR3.out Try.underlying54 rfl HI5.out ?_)
            | (with_reducible refine wpList_store_mid rfl 54 _ _ rfl ga (p.1 * 64) (u8v p.2).toArray rfl rfl HT3.out HI4.out (all_oneCell_toArray (u8v_one p.2)) ?_))
          go_roundg (m - (j + 1))
          case measure => have := hk.out; omega
          case rel =>
            refine ⟨j + 1, (by show m - (j + 1) + (j + 1) = m; omega), by go_num, ⟨?_, HF.out⟩⟩
            rw [HSN.out, if_neg (fun q => by have := q.2; rw [HK.out.1.len, hb] at this; exact Bool.noConfusion this)]
            exact HD1.out
        | true =>
          rw [hb] at hcell
          go_upto_region 4 with (first
            | (with_reducible refine wpList_load_mid rfl 59 _ rfl gb (j * 65) rfl (wrc p) _ HR.out Try.underlying59 rfl HI3.out ?_)
            | (with_reducible refine wpList_store_mid rfl 59 _ _ rfl wr.heap.size 0 (wrc p).toArray rfl rfl HT2.out HI2.out (all_oneCell_toArray (wrc_one p)) ?_)
            | (with_reducible refine wpList_load_mid rfl 54 _ rfl wr.heap.size 1 rfl (u8v p.2) _ HR3.out Try.underlying54 rfl HI5.out ?_)
            | (with_reducible refine wpList_store_mid rfl 54 _ _ rfl ga (p.1 * 64) (u8v p.2).toArray rfl rfl HT3.out HI4.out (all_oneCell_toArray (u8v_one p.2)) ?_))
          refine wp_region_still_tail 9 (by kernel_rfl) (by kernel_rfl) ?_
          simp only [List.take_succ_cons, List.take_zero, List.drop_succ_cons, List.drop_zero]
          have HR4 := Aside0.mk (show (W1.drew).rangeAt wr.heap.size 1 (u8v p.2) from (World.rangeAt_drew W1 _ _ _).2 HR3.out)
          still_step
          still_step
          still_step
          still_step
          still_step
          still_step
          still_step
          refine wpStill_load (by rfl) 54 _ rfl wr.heap.size 1 rfl (u8v p.2) _ HR4.out Try.underlying54 rfl HI5.out ?_
          still_step
          refine wpStill_nil ?_
          change wpList _ _ _ _ _ W1.drew
          obtain ⟨Wd, hWd⟩ : ∃ Wd, W1.drew = Wd := ⟨_, rfl⟩
          have HD2 := Aside0.mk (show DM Wd base g (some ⟨ga, 0, none⟩) n c (some ⟨gb, 0, none⟩) m e { d with l := crL ks 0 d.l (d.row.take j) } from by rw [← hWd]; exact HD1.out.below (below_drew (Below.refl _ _)))
          have HF2 := Aside0.mk (show Fr g (some ⟨ga, 0, none⟩) (some ⟨gb, 0, none⟩) w Wd from by rw [← hWd]; exact HF.out.trans (Fr.of_below (below_drew (Below.refl _ _))) (.inl rfl) (.inl rfl))
          have HT4 := Aside0.mk (show Wd.there ga (p.1 * 64) (u8v p.2).toArray.size from by rw [← hWd]; exact (World.there_drew W1 _ _ _).2 HT3.out)
          rw [hWd]
          clear hWd
          go_wp2_with (with_reducible refine wpList_store_mid rfl 54 _ _ rfl ga (p.1 * 64) (u8v p.2).toArray rfl rfl HT4.out HI4.out (all_oneCell_toArray (u8v_one p.2)) ?_)
          go_roundg (m - (j + 1))
          case measure => have := hk.out; omega
          case rel =>
            obtain ⟨k1, k2⟩ := HD2.out.put p.1 hp1 p.2 HP.out.2.1.1
            refine ⟨j + 1, (by show m - (j + 1) + (j + 1) = m; omega), by go_num, ⟨?_, HF2.out.trans (Fr.of_slice k2) (.inl rfl) (.inl rfl)⟩⟩
            rw [HSN.out, if_pos ⟨by rw [HK.out.1.len]; omega, by rw [HK.out.1.len]; exact hb⟩]
            exact k1
    · obtain rfl : m = j := by omega
      obtain ⟨y0, y1, y2, y3, y4, y5⟩ := row6_cells hI.out.1.row
      have yf := fun j => Go.Joins.unfrozen_of_block hI.out.1.row j
      have h9 := hI.out.1
      rw [List.take_of_length_le (by omega)] at h9
      have H9 := Aside0.mk h9
      clear h9
      have HC := Aside0.mk H9.out.crash
      go_wp2_with fail
      first | go_end0 | refine bodyPost_ret (results_none rfl _ _ _) rfl ?_
      exact ⟨rfl, HC.out, hI.out.2.trans (Fr.of_only ((((OnlyB.refl g wr).set 2 (.slice none 0 0)).set 5 (.bool false)).set 4 (.int .i64 (-1)))) (.inl rfl) (.inl rfl)⟩
end Go.Proofs.Ytcegphnhohpegaa
