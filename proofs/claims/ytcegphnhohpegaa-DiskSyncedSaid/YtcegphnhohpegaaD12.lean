/- The walk of a disk's Read. -/
import Derived.Test.YtcegphnhohpegaaD11
set_option linter.unusedVariables false
set_option linter.unusedSimpArgs false
namespace Go.Proofs.Ytcegphnhohpegaa
open Go.RowKit

/-- What was written, over some sectors. -/
def readL (a k : Nat) : List UInt8 → List (Nat × List UInt8) → List UInt8
  | l, [] => l
  | l, p :: r => readL a k (if a ≤ p.1 ∧ p.1 < a + k then putL l p.2 (64 * (p.1 - a)) else l) r
theorem readL_snoc (a k : Nat) (l : List UInt8) (r : List (Nat × List UInt8)) (p : Nat × List UInt8) : readL a k l (r ++ [p]) = (if a ≤ p.1 ∧ p.1 < a + k then putL (readL a k l r) p.2 (64 * (p.1 - a)) else readL a k l r) := by
  induction r generalizing l with
  | nil => rfl
  | cons q r ih => exact ih _
theorem readL_len (a k : Nat) (l : List UInt8) (row : List (Nat × List UInt8)) (hl : l.length = k * 64) (h : ∀ p, p ∈ row → p.2.length = 64) : (readL a k l row).length = k * 64 := by
  induction row generalizing l with
  | nil => exact hl
  | cons p r ih =>
    have hp := h p List.mem_cons_self
    refine ih _ ?_ (fun q hq => h q (List.mem_cons_of_mem _ hq))
    split
    · rw [putL_length _ _ _ (by rw [hp, hl]; omega)]
      exact hl
    · exact hl
def cutC (A : Option Addr) (c a k : Nat) : Option Addr := if c = a then A else A.map (·.add (a * k))
/-- Some elements of a slice that is read. -/
theorem Rc.cut {w : World} {k n c : Nat} {A : Option Addr} {xs : List Value} (h : Rc w k A n c xs) (a m : Nat) (ham : a + m ≤ n) : Rc w k (cutC A c a k) m (c - a) ((xs.drop (a * k)).take (m * k)) := by
  have hle := h.le
  have hl := h.len
  have hmul : (a + m) * k ≤ n * k := Nat.mul_le_mul_right k ham
  rw [Nat.add_mul] at hmul
  refine ⟨by rw [List.length_take, List.length_drop, hl]; omega, by omega, by have := h.cap; omega, by have := h.lim; omega, fun v hv => h.one v (List.mem_of_mem_drop (List.mem_of_mem_take hv)), fun h0 => ?_⟩
  obtain ⟨ad, rfl, hx⟩ := h.cells (by omega)
  unfold cutC
  rw [if_neg (by omega)]
  refine ⟨ad.add (a * k), rfl, fun j u hu => ?_⟩
  have hj : j < m * k := by
    have := (List.getElem?_eq_some_iff.1 hu).1
    rw [List.length_take] at this
    omega
  rw [List.getElem?_take_of_lt hj, List.getElem?_drop] at hu
  rw [add_add]
  exact hx _ u hu
theorem size54 (w : World) : (sizeOf (Try.prog.elem 49)).run Try.prog w = .ok 64 w := by
  have e : Try.prog.elem 49 = 54 := by simp [Program.elem, Try.underlying49]
  rw [e]
  obtain ⟨i, hi, hz⟩ := Option.map_eq_some_iff.1 info54
  simp only [Prod.mk.injEq] at hz
  simp [sizeOf, typeInfo, hi, hz.2.1]
theorem sl54 (w : World) (A : Option Addr) (n c a k : Nat) (h : a + k ≤ c) :
    (Instr.slice 49 (.slice A n c) (some (.int .i64 (a : Int))) (some (.int .i64 ((a : Int) + (k : Int)))) none).run Try.prog w = .ok (.slice (cutC A c a 64) k (c - a)) w := by
  have e : Try.prog.underlying 49 = some (.slice (Try.prog.elem 49)) := by
    have e : Try.prog.elem 49 = 54 := by simp [Program.elem, Try.underlying49]
    rw [e]; exact Try.underlying49
  rw [run_slice_lh w _ A n c e .i64 .i64 (a : Int) ((a : Int) + (k : Int)) (by omega) (by omega) (by omega), size54]
  simp only [sliced, cutC, Result.andThen]
  rw [show ((a : Int)).toNat = a by omega, show ((a : Int) + (k : Int)).toNat - a = k by omega]
set_option maxHeartbeats 1000000 in
set_option maxRecDepth 100000 in
theorem read_down (base g : Nat) (A : Option Addr) (n c : Nat) (B : Option Addr) (m e : Nat) (d : DV) (at_ many : Int) (w : World) (h : DM w base g A n c B m e d) (hd : d.down = true) :
    Calls Try.prog 25 #[.pointer (some ⟨g, 0, none⟩), .int .i64 at_, .int .i64 many] w fun e' w' => e' = .returned (.tuple #[.slice none 0 0, .int .i64 10]) ∧ w = w' := by
  obtain ⟨c0, c1, c2, c3, c4, c5⟩ := row6_cells h.row
  rw [hd] at c5
  clear hd
  go_enter Try.func25, Try.ntmps25
  go_wp2_with fail
  go_ret2
  exact ⟨rfl, rfl⟩
set_option maxHeartbeats 1000000 in
set_option maxRecDepth 100000 in
theorem read_range (base g : Nat) (A : Option Addr) (n c : Nat) (B : Option Addr) (m e : Nat) (d : DV) (at_ many : Int) (w : World) (h : DM w base g A n c B m e d) (hd : d.down = false) (hh : hasB n at_ many = false) :
    Calls Try.prog 25 #[.pointer (some ⟨g, 0, none⟩), .int .i64 at_, .int .i64 many] w fun e' w' => e' = .returned (.tuple #[.slice none 0 0, .int .i64 11]) ∧ w = w' := by
  obtain ⟨c0, c1, c2, c3, c4, c5⟩ := row6_cells h.row
  rw [hd] at c5
  have HD := Aside0.mk h
  have HH := Aside0.mk hh
  clear hd h hh
  go_enter Try.func25, Try.ntmps25
  go_wp2_with (go_at_call 30; refine (hasd_any base g A n c B m e d at_ many w HD.out).mono ?_; rintro e1 w1 ⟨rfl, rfl⟩; rw [HH.out])
  go_ret2
  exact ⟨rfl, rfl⟩
set_option maxHeartbeats 8000000 in
set_option maxRecDepth 100000 in
theorem read_ok (base g : Nat) (A : Option Addr) (n c : Nat) (B : Option Addr) (m e : Nat) (d : DV) (a k : Nat) (w : World) (h : DM w base g A n c B m e d) (ok : d.ok n) (hd : d.down = false) (hak : a + k ≤ n) :
    Calls Try.prog 25 #[.pointer (some ⟨g, 0, none⟩), .int .i64 (a : Int), .int .i64 (k : Int)] w fun e' w' => ∃ A1 c1, e' = .returned (.tuple #[.slice A1 (k * 64) c1, .int .i64 0]) ∧ Ow w' w.heap.size A1 (k * 64) c1 (readL a k ((d.l.drop (a * 64)).take (k * 64)) d.row) ∧ Below w.heap.size w w' := by
  have HD := Aside0.mk h
  obtain ⟨c0, c1, c2, c3, c4, c5⟩ := row6_cells h.row
  rw [hd] at c5
  have hrl := h.rows ok
  have hl0 := h.sl.lim
  have hl1 := h.sr.lim
  have hcn := h.sl.rc.le
  have HRC := Aside0.mk (h.sl.rc.cut a k hak)
  have t1 := fun W => sl54 W A n c a k (by omega)
  have HH := Aside0.mk (show hasB n (a : Int) (k : Int) = true from decide_eq_true (by omega))
  obtain ⟨l0, hl⟩ : ∃ l, (d.l.drop (a * 64)).take (k * 64) = l := ⟨_, rfl⟩
  have hl0l : l0.length = k * 64 := by rw [← hl, List.length_take, List.length_drop, ok.len]; omega
  rw [u8v_seg, hl] at HRC
  rw [hl]
  have iw : IntKind.i64.wrap ((a : Int) + (k : Int)) = (a : Int) + (k : Int) := IntWalk.i64_in _ (by omega)
  replace hl0l := Aside0.mk hl0l
  clear h hd hl
  go_enter Try.func25, Try.ntmps25
  go_wp2_with (first
    | (go_at_call 30; refine (hasd_any base g A n c B m e d (a : Int) (k : Int) w HD.out).mono ?_; rintro e1 w1 ⟨rfl, rfl⟩; rw [HH.out])
    | (go_at_call 31; refine (cloneS_any _ k _ _ w HRC.out).mono ?_; rintro e1 w1 ⟨A1, cc, rfl, hO, hB⟩; (have HD1 := Aside0.mk (HD.out.below hB)); (have HO := Aside0.mk hO); (have HB := Aside0.mk hB); clear hO hB; (obtain ⟨c0, c1, c2, c3, c4, c5⟩ := row6_cells HD1.out.row)))
  clear c0 c1 c2 c3 c4 c5 t1
  go_loopg [37] m (fun gk v wr => ∃ j : Nat, Aside (gk + j = m) ∧ v = .int .i64 (j : Int) ∧ Aside0 (Oc wr w.heap.size 54 64 A1 k cc (u8v (readL a k l0 (d.row.take j))) ∧ Below w.heap.size w wr))
  case atStart => exact ⟨0, rfl, rfl, ⟨HO.out, HB.out⟩⟩
  case round =>
    obtain ⟨j, hk, rfl, hI⟩ := hrel
    have hjm : j ≤ m := by have := hk.out; omega
    rcases Nat.lt_or_ge j m with hlt | hge
    · have d1 : decide ((j : Int) < (m : Int)) = true := decide_eq_true (by omega)
      obtain ⟨gb, rfl, hgb0, hgb1⟩ := HD.out.sr.head (by omega)
      have hel := wrv_at d.row (fun p hp => (ok.each p hp).1) j (by omega)
      obtain ⟨p, hp⟩ : ∃ p, d.row[j]'(by omega) = p := ⟨_, rfl⟩
      rw [hp] at hel
      have hpm : p ∈ d.row := by rw [← hp]; exact List.getElem_mem _
      have hpo := ok.each p hpm
      have HR := Aside0.mk (show wr.rangeAt gb (j * 65) (wrc p) from by
        have := ((HD.out.sr.below hI.out.2).at_ j hlt).1
        rw [hel] at this
        exact this)
      have HP := Aside0.mk (And.intro hpm (And.intro hpo hp))
      clear hel hp hpm hpo
      have hz := zero59
      have HB2 := Aside0.mk (box_new wr z65 59 (wrc p) (by rw [wrc_len HP.out.2.1.1]; kernel_rfl))
      have hsz : (wrc p).toArray.size = 65 := by rw [List.size_toArray, wrc_len HP.out.2.1.1]
      have HT2 := Aside0.mk (show (wr.alloc (.cells z65 59)).there wr.heap.size 0 (wrc p).toArray.size from by rw [hsz]; exact there_new wr z65 59 65 (by kernel_rfl))
      have HI2 := Aside0.mk (show (Try.prog.info? 59).map (·.size) = some (wrc p).toArray.size from by rw [hsz]; kernel_rfl)
      have HI3 := Aside0.mk (show (Try.prog.info? 59).map (·.size) = some (wrc p).length from by rw [wrc_len HP.out.2.1.1]; kernel_rfl)
      have HL2 := Aside0.mk (show (u8v p.2).length = 64 by rw [u8v_length]; exact HP.out.2.1.1)
      have hpn : p.1 < n := HP.out.2.1.2
      clear hsz
      obtain ⟨W1, hW1⟩ : ∃ X, (wr.alloc (.cells z65 59)).setCells wr.heap.size 0 (wrc p) = X := ⟨_, rfl⟩
      rw [hW1] at HB2
      have x0 : W1.cell? ⟨wr.heap.size, 0, none⟩ = some (.int .i64 (p.1 : Int)) := by rw [cell_of_row _ _ _ _ _ _ HB2.out.1]; rfl
      have HR3 := Aside0.mk (range_row HB2.out.1 1 (u8v p.2) (by rw [HL2.out]; show List.take 64 (u8v p.2) = _; exact List.take_of_length_le (by rw [HL2.out]; exact Nat.le_refl _)))
      have HO1 := Aside0.mk (hI.out.1.below HB2.out.2)
      have hsz2 : (u8v p.2).toArray.size = 64 := by rw [List.size_toArray, HL2.out]
      have HI4 := Aside0.mk (show (Try.prog.info? 54).map (·.size) = some (u8v p.2).toArray.size from by rw [hsz2]; kernel_rfl)
      have HI5 := Aside0.mk (show (Try.prog.info? 54).map (·.size) = some (u8v p.2).length from by rw [HL2.out]; kernel_rfl)
      have HSN := Aside0.mk (show readL a k l0 (d.row.take (j + 1)) = (if a ≤ p.1 ∧ p.1 < a + k then putL (readL a k l0 (d.row.take j)) p.2 (64 * (p.1 - a)) else readL a k l0 (d.row.take j)) from by
        rw [List.take_succ_eq_append_getElem (by omega), HP.out.2.2, readL_snoc])
      by_cases ha1 : a ≤ p.1
      · have f1 : decide ((a : Int) ≤ (p.1 : Int)) = true := decide_eq_true (by omega)
        have f1' : decide (a ≤ p.1) = true := decide_eq_true ha1
        by_cases ha2 : p.1 < a + k
        · have f2 : decide ((p.1 : Int) < (a : Int) + (k : Int)) = true := decide_eq_true (by omega)
          have f2' : decide (p.1 < a + k) = true := decide_eq_true ha2
          obtain ⟨q, hq⟩ : ∃ q, p.1 - a = q := ⟨_, rfl⟩
          have hq1 : q < k := by omega
          have hqi : (p.1 : Int) - (a : Int) = (q : Int) := by omega
          obtain ⟨ga, rfl, hga0, hga1⟩ := hI.out.1.head (by omega)
          have HT3 := Aside0.mk (show W1.there ga (q * 64) (u8v p.2).toArray.size from by rw [hsz2]; exact (HO1.out.at_ q hq1).2)
          rw [if_pos ⟨ha1, ha2⟩, hq] at HSN
          clear hsz2
          go_wp2_with (first
            | (with_reducible refine wpList_load_mid rfl 59 _ rfl gb (j * 65) rfl (wrc p) _ HR.out Try.underlying59 rfl HI3.out ?_)
            | (with_reducible refine wpList_store_mid rfl 59 _ _ rfl wr.heap.size 0 (wrc p).toArray rfl rfl HT2.out HI2.out (all_oneCell_toArray (wrc_one p)) ?_)
            | (with_reducible refine wpList_load_mid rfl 54 _ rfl wr.heap.size 1 rfl (u8v p.2) _ HR3.out Try.underlying54 rfl HI5.out ?_)
            | (with_reducible refine wpList_store_mid rfl 54 _ _ rfl ga (q * 64) (u8v p.2).toArray rfl rfl HT3.out HI4.out (all_oneCell_toArray (u8v_one p.2)) ?_))
          go_roundg (m - (j + 1))
          case measure => have := hk.out; omega
          case rel =>
            obtain ⟨k1, k2⟩ := HO1.out.put q hq1 (u8v p.2) HL2.out (u8v_one _)
            refine ⟨j + 1, (by show m - (j + 1) + (j + 1) = m; omega), by go_num, ⟨?_, k2.below (below_then hI.out.2 hI.out.2.size HB2.out.2) hga0 (Nat.le_refl _)⟩⟩
            rw [u8v_put _ _ _ _ HP.out.2.1.1] at k1
            rw [HSN.out, Nat.mul_comm 64]
            exact k1
        · have f2 : decide ((p.1 : Int) < (a : Int) + (k : Int)) = false := decide_eq_false (by omega)
          have f2' : decide (p.1 < a + k) = false := decide_eq_false ha2
          rw [if_neg (fun q => ha2 q.2)] at HSN
          clear hsz2
          go_wp2_with (first
            | (with_reducible refine wpList_load_mid rfl 59 _ rfl gb (j * 65) rfl (wrc p) _ HR.out Try.underlying59 rfl HI3.out ?_)
            | (with_reducible refine wpList_store_mid rfl 59 _ _ rfl wr.heap.size 0 (wrc p).toArray rfl rfl HT2.out HI2.out (all_oneCell_toArray (wrc_one p)) ?_))
          go_roundg (m - (j + 1))
          case measure => have := hk.out; omega
          case rel =>
            refine ⟨j + 1, (by show m - (j + 1) + (j + 1) = m; omega), by go_num, ⟨?_, below_then hI.out.2 hI.out.2.size HB2.out.2⟩⟩
            rw [HSN.out]
            exact HO1.out
      · have f1 : decide ((a : Int) ≤ (p.1 : Int)) = false := decide_eq_false (by omega)
        have f1' : decide (a ≤ p.1) = false := decide_eq_false ha1
        rw [if_neg (fun q => ha1 q.1)] at HSN
        clear hsz2
        go_wp2_with (first
          | (with_reducible refine wpList_load_mid rfl 59 _ rfl gb (j * 65) rfl (wrc p) _ HR.out Try.underlying59 rfl HI3.out ?_)
          | (with_reducible refine wpList_store_mid rfl 59 _ _ rfl wr.heap.size 0 (wrc p).toArray rfl rfl HT2.out HI2.out (all_oneCell_toArray (wrc_one p)) ?_))
        go_roundg (m - (j + 1))
        case measure => have := hk.out; omega
        case rel =>
          refine ⟨j + 1, (by show m - (j + 1) + (j + 1) = m; omega), by go_num, ⟨?_, below_then hI.out.2 hI.out.2.size HB2.out.2⟩⟩
          rw [HSN.out]
          exact HO1.out
    · obtain rfl : m = j := by omega
      have d1 : decide ((m : Int) < (m : Int)) = false := by simp
      have h9 := hI.out.1
      rw [List.take_of_length_le (by omega)] at h9
      have HE := Aside0.mk (readL_len a k l0 d.row hl0l.out (fun p hp => (ok.each p hp).1))
      have H9 := Aside0.mk h9
      clear h9
      go_wp2_with (go_at_call 29; refine (dbytes_oc H9.out).mono ?_; rintro e2 w2 ⟨A2, c2, rfl, hO2, hB2⟩; (have HO2 := Aside0.mk hO2); (have HB2 := Aside0.mk hB2); clear hO2 hB2)
      go_ret2
      have h8 := HO2.out.mono hI.out.2.size
      rw [HE.out] at h8 ⊢
      exact ⟨A2, c2, rfl, h8, below_then hI.out.2 hI.out.2.size HB2.out⟩
end Go.Proofs.Ytcegphnhohpegaa
