/- The walk of what a disk's sectors are, as reads see them. -/
import Derived.Test.YtcegphnhohpegaaD4
import Derived.Test.YtcegphnhohpegaaF4
set_option linter.unusedVariables false
set_option linter.unusedSimpArgs false
namespace Go.Proofs.Ytcegphnhohpegaa
open Go.RowKit

/-- What was written, over what is durable. -/
def seenL (l : List UInt8) : List (Nat × List UInt8) → List UInt8
  | [] => l
  | p :: r => seenL (putL l p.2 (64 * p.1)) r
theorem seenL_snoc (l : List UInt8) (r : List (Nat × List UInt8)) (p : Nat × List UInt8) : seenL l (r ++ [p]) = putL (seenL l r) p.2 (64 * p.1) := by
  induction r generalizing l with
  | nil => rfl
  | cons q r ih => exact ih _
theorem u8v_put (l s : List UInt8) (a k : Nat) (hs : s.length = k) : (u8v l).take a ++ (u8v s ++ (u8v l).drop (a + k)) = u8v (putL l s a) := by
  unfold putL
  rw [u8v_append, u8v_append, hs]
  simp [u8v, List.map_take, List.map_drop]
def wrc (p : Nat × List UInt8) : List Value := .int .i64 (p.1 : Int) :: u8v p.2
theorem wrv_cons (p : Nat × List UInt8) (r : List (Nat × List UInt8)) : wrv (p :: r) = wrc p ++ wrv r := by simp [wrv, wrc]
theorem wrc_len {p : Nat × List UInt8} (h : p.2.length = 64) : (wrc p).length = 65 := by simp [wrc, u8v_length, h]
theorem wrc_one (p : Nat × List UInt8) : ∀ v, v ∈ wrc p → v.oneCell' = true := fun v hv => by
  rcases List.mem_cons.1 hv with rfl | hv
  · rfl
  · exact u8v_one _ v hv
theorem wrv_len (row : List (Nat × List UInt8)) (h : ∀ p, p ∈ row → p.2.length = 64) : (wrv row).length = row.length * 65 := by
  induction row with
  | nil => rfl
  | cons p r ih =>
    rw [wrv_cons, List.length_append, wrc_len (h p List.mem_cons_self), ih (fun q hq => h q (List.mem_cons_of_mem _ hq)), List.length_cons]
    omega
theorem wrv_at (row : List (Nat × List UInt8)) (h : ∀ p, p ∈ row → p.2.length = 64) (j : Nat) (hj : j < row.length) : ((wrv row).drop (j * 65)).take 65 = wrc row[j] := by
  induction row generalizing j with
  | nil => exact absurd hj (by simp)
  | cons p r ih =>
    have hp := wrc_len (h p List.mem_cons_self)
    rw [wrv_cons]
    cases j with
    | zero =>
      rw [Nat.zero_mul, List.drop_zero, List.take_left' hp]
      rfl
    | succ j =>
      rw [show (j + 1) * 65 = 65 + j * 65 by omega, ← List.drop_drop, List.drop_left' hp]
      exact ih (fun q hq => h q (List.mem_cons_of_mem _ hq)) j (by simpa using hj)
theorem DM.rows {w : World} {base g n c m e : Nat} {A B : Option Addr} {d : DV} (h : DM w base g A n c B m e d) (ok : d.ok n) : d.row.length = m := by
  have h1 := h.sr.len
  rw [wrv_len d.row (fun p hp => (ok.each p hp).1)] at h1
  omega
set_option maxHeartbeats 4000000 in
set_option maxRecDepth 100000 in
theorem seen_any (base g : Nat) (A : Option Addr) (n c : Nat) (B : Option Addr) (m e : Nat) (d : DV) (w : World) (h : DM w base g A n c B m e d) (ok : d.ok n) :
    Calls Try.prog 28 #[.pointer (some ⟨g, 0, none⟩)] w fun e' w' => ∃ A1 c1, e' = .returned (.slice A1 n c1) ∧ Oc w' w.heap.size 54 64 A1 n c1 (u8v (seenL d.l d.row)) ∧ Below w.heap.size w w' := by
  have HD := Aside0.mk h
  obtain ⟨c0, c1, c2, c3, c4, c5⟩ := row6_cells h.row
  go_enter Try.func28, Try.ntmps28
  go_wp2_with (go_at_call 31; refine (cloneS_any A n c _ w HD.out.sl.rc).mono ?_; rintro e1 w1 ⟨A1, cc, rfl, hO, hB⟩; (have HD1 := Aside0.mk (HD.out.below hB)); (have HO := Aside0.mk hO); (have HB := Aside0.mk hB); clear hO hB; (obtain ⟨c0, c1, c2, c3, c4, c5⟩ := row6_cells HD1.out.row))
  have hrl := HD.out.rows ok
  have hl0 := HD.out.sl.lim
  have hl1 := HD.out.sr.lim
  clear c0 c1 c2 c3 c4 c5 h
  go_loopg [16] m (fun gk v wr => ∃ j : Nat, Aside (gk + j = m) ∧ v = .int .i64 (j : Int) ∧ Aside0 (Oc wr w.heap.size 54 64 A1 n cc (u8v (seenL d.l (d.row.take j))) ∧ Below w.heap.size w wr))
  case atStart => exact ⟨0, rfl, rfl, ⟨HO.out, HB.out⟩⟩
  case round =>
    obtain ⟨j, hk, rfl, hI⟩ := hrel
    have hjm : j ≤ m := by have := hk.out; omega
    rcases Nat.lt_or_ge j m with hlt | hge
    · have d1 : decide ((j : Int) < (m : Int)) = true := decide_eq_true (by omega)
      obtain ⟨gb, rfl, hgb0, hgb1⟩ := HD.out.sr.head (by omega)
      have hel := wrv_at d.row (fun p hp => (ok.each p hp).1) j (by omega)
      obtain ⟨p, hp⟩ : ∃ p, d.row[j]'(by omega) = p := ⟨_, rfl⟩
      rw [hp] at hel
      have hpm : p ∈ d.row := by rw [← hp]; exact List.getElem_mem _
      have hpo := ok.each p hpm
      have HR := Aside0.mk (show wr.rangeAt gb (j * 65) (wrc p) from by
        have := ((HD.out.sr.below hI.out.2).at_ j hlt).1
        rw [hel] at this
        exact this)
      have HP := Aside0.mk (And.intro hpm (And.intro hpo hp))
      clear hel hp hpm hpo
      have hz := zero59
      obtain ⟨ga, rfl, hga0, hga1⟩ := hI.out.1.head (by have := HP.out.2.1.2; omega)
      have hp1 := HP.out.2.1.2
      have HB2 := Aside0.mk (box_new wr z65 59 (wrc p) (by rw [wrc_len HP.out.2.1.1]; kernel_rfl))
      have hsz : (wrc p).toArray.size = 65 := by rw [List.size_toArray, wrc_len HP.out.2.1.1]
      have HT2 := Aside0.mk (show (wr.alloc (.cells z65 59)).there wr.heap.size 0 (wrc p).toArray.size from by rw [hsz]; exact there_new wr z65 59 65 (by kernel_rfl))
      have HI2 := Aside0.mk (show (Try.prog.info? 59).map (·.size) = some (wrc p).toArray.size from by rw [hsz]; kernel_rfl)
      have HI3 := Aside0.mk (show (Try.prog.info? 59).map (·.size) = some (wrc p).length from by rw [wrc_len HP.out.2.1.1]; kernel_rfl)
      have HL2 := Aside0.mk (show (u8v p.2).length = 64 by rw [u8v_length]; exact HP.out.2.1.1)
      clear hsz
      obtain ⟨W1, hW1⟩ : ∃ X, (wr.alloc (.cells z65 59)).setCells wr.heap.size 0 (wrc p) = X := ⟨_, rfl⟩
      rw [hW1] at HB2
      have x0 : W1.cell? ⟨wr.heap.size, 0, none⟩ = some (.int .i64 (p.1 : Int)) := by rw [cell_of_row _ _ _ _ _ _ HB2.out.1]; rfl
      have HR3 := Aside0.mk (range_row HB2.out.1 1 (u8v p.2) (by rw [HL2.out]; show List.take 64 (u8v p.2) = _; exact List.take_of_length_le (by rw [HL2.out]; exact Nat.le_refl _)))
      have HO1 := Aside0.mk (hI.out.1.below HB2.out.2)
      have hsz2 : (u8v p.2).toArray.size = 64 := by rw [List.size_toArray, HL2.out]
      have HT3 := Aside0.mk (show W1.there ga (p.1 * 64) (u8v p.2).toArray.size from by rw [hsz2]; exact (HO1.out.at_ p.1 hp1).2)
      have HI4 := Aside0.mk (show (Try.prog.info? 54).map (·.size) = some (u8v p.2).toArray.size from by rw [hsz2]; kernel_rfl)
      have HI5 := Aside0.mk (show (Try.prog.info? 54).map (·.size) = some (u8v p.2).length from by rw [HL2.out]; kernel_rfl)
      clear hsz2
      go_wp2_with (first
        | (with_reducible refine wpList_load_mid rfl 59 _ rfl gb (j * 65) rfl (wrc p) _ HR.out Try.underlying59 rfl HI3.out ?_)
        | (with_reducible refine wpList_store_mid rfl 59 _ _ rfl wr.heap.size 0 (wrc p).toArray rfl rfl HT2.out HI2.out (all_oneCell_toArray (wrc_one p)) ?_)
        | (with_reducible refine wpList_load_mid rfl 54 _ rfl wr.heap.size 1 rfl (u8v p.2) _ HR3.out Try.underlying54 rfl HI5.out ?_)
        | (with_reducible refine wpList_store_mid rfl 54 _ _ rfl ga (p.1 * 64) (u8v p.2).toArray rfl rfl HT3.out HI4.out (all_oneCell_toArray (u8v_one p.2)) ?_))
      go_roundg (m - (j + 1))
      case measure => have := hk.out; omega
      case rel =>
        obtain ⟨k1, k2⟩ := HO1.out.put p.1 hp1 (u8v p.2) HL2.out (u8v_one _)
        refine ⟨j + 1, (by show m - (j + 1) + (j + 1) = m; omega), by go_num, ⟨?_, k2.below (below_then hI.out.2 hI.out.2.size HB2.out.2) hga0 (Nat.le_refl _)⟩⟩
        rw [u8v_put _ _ _ _ HP.out.2.1.1] at k1
        rw [List.take_succ_eq_append_getElem (by omega), HP.out.2.2, seenL_snoc, Nat.mul_comm 64]
        exact k1
    · obtain rfl : j = m := by omega
      have d1 : decide ((j : Int) < (j : Int)) = false := by simp
      go_wp2_with fail
      go_ret
      have h9 := hI.out.1
      rw [List.take_of_length_le (by omega)] at h9
      exact ⟨A1, cc, rfl, h9, hI.out.2⟩
end Go.Proofs.Ytcegphnhohpegaa
