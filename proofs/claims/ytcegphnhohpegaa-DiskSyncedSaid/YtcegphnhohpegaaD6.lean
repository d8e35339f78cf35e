/- The walks of disk's bytes of sectors, and of a disk's Image. -/
import Derived.Test.YtcegphnhohpegaaD5
set_option linter.unusedVariables false
set_option linter.unusedSimpArgs false
namespace Go.Proofs.Ytcegphnhohpegaa
open Go.RowKit

/-- One element of a slice that is read. -/
theorem Rc.at_ {w : World} {k n c : Nat} {g o : Nat} {xs : List Value} (h : Rc w k (some ⟨g, o, none⟩) n c xs) (i : Nat) (hi : i < n) : w.rangeAt g (o + i * k) ((xs.drop (i * k)).take k) := by
  obtain ⟨ad, e, hx⟩ := h.cells (by omega)
  obtain rfl := Option.some.inj e
  intro j v hv
  have hj : j < k := by
    have := (List.getElem?_eq_some_iff.1 hv).1
    rw [List.length_take] at this
    omega
  rw [List.getElem?_take_of_lt hj, List.getElem?_drop] at hv
  have := hx (i * k + j) v hv
  rwa [Addr.add_mid, ← Nat.add_assoc] at this
theorem bs_row {w : World} {g n : Nat} {T : TypeId} {s : List UInt8} (h : w.heap[g]? = some (.cells (u8v s).toArray T)) (hs : s.length = n) (hn : n ≤ 140737488355328) : Bs w (some ⟨g, 0, none⟩) n n s :=
  ⟨hs, Nat.le_refl _, by omega, hn, fun _ => ⟨_, rfl, fun j hj => by
    rw [add_plain, cell_of_row _ _ _ _ _ _ h]
    simpa using u8v_get s j (by omega)⟩⟩
theorem u8v_seg (L : List UInt8) (a k : Nat) : ((u8v L).drop a).take k = u8v ((L.drop a).take k) := by simp [u8v, List.map_take, List.map_drop]
set_option maxHeartbeats 4000000 in
set_option maxRecDepth 100000 in
theorem dbytes_any (g o : Nat) (n c : Nat) (L : List UInt8) (w : World) (h : Rc w 64 (some ⟨g, o, none⟩) n c (u8v L)) :
    Calls Try.prog 29 #[.slice (some ⟨g, o, none⟩) n c] w fun e' w' => ∃ A1 c1, e' = .returned (.slice A1 L.length c1) ∧ Ow w' w.heap.size A1 L.length c1 L ∧ Below w.heap.size w w' := by
  have hL : L.length = n * 64 := by have := h.len; rwa [u8v_length] at this
  have hlim := h.lim
  have HR := Aside0.mk h
  clear h
  go_enter Try.func29, Try.ntmps29
  go_wp2_with fail
  go_loopg [3, 8] n (fun gk v3 v8 wr => ∃ (j : Nat) (A1 : Option Addr) (cc : Nat), Aside (gk + j = n) ∧ v3 = .slice A1 (j * 64) cc ∧ v8 = .int .i64 (j : Int) ∧ Aside0 (Ow wr w.heap.size A1 (j * 64) cc (L.take (j * 64)) ∧ Below w.heap.size w wr))
  case atStart => exact ⟨0, none, 0, rfl, rfl, rfl, ⟨Ow.nil _ _, Below.refl _ _⟩⟩
  case round =>
    obtain ⟨j, A1, cc, hk, rfl, rfl, hI⟩ := hrel
    have hjm : j ≤ n := by have := hk.out; omega
    rcases Nat.lt_or_ge j n with hlt | hge
    · have d1 : decide ((j : Int) < (n : Int)) = true := decide_eq_true (by omega)
      have hz := zero54
      obtain ⟨s, hs⟩ : ∃ s, (L.drop (j * 64)).take 64 = s := ⟨_, rfl⟩
      have hs64 : s.length = 64 := by rw [← hs, List.length_take, List.length_drop]; omega
      have HR1 := Aside0.mk (show wr.rangeAt g (o + j * 64) (u8v s) from by
        have := (HR.out.below hI.out.2).at_ j hlt
        rwa [u8v_seg, hs] at this)
      have hsz2 : (u8v s).toArray.size = 64 := by rw [List.size_toArray, u8v_length, hs64]
      have HB2 := Aside0.mk (box_new wr z64 54 (u8v s) (by rw [u8v_length, hs64]; kernel_rfl))
      have HT2 := Aside0.mk (show (wr.alloc (.cells z64 54)).there wr.heap.size 0 (u8v s).toArray.size from by rw [hsz2]; exact there_new wr z64 54 64 (by kernel_rfl))
      have HI4 := Aside0.mk (show (Try.prog.info? 54).map (·.size) = some (u8v s).toArray.size from by rw [hsz2]; kernel_rfl)
      have HI5 := Aside0.mk (show (Try.prog.info? 54).map (·.size) = some (u8v s).length from by rw [u8v_length, hs64]; kernel_rfl)
      obtain ⟨W1, hW1⟩ : ∃ X, (wr.alloc (.cells z64 54)).setCells wr.heap.size 0 (u8v s) = X := ⟨_, rfl⟩
      rw [hW1] at HB2
      have HS := Aside0.mk (And.intro hs hs64)
      have HO1 := Aside0.mk (hI.out.1.below HB2.out.2)
      have HB1 := Aside0.mk (bs_row HB2.out.1 hs64 (by omega))
      have HBW := Aside0.mk (below_then hI.out.2 hI.out.2.size HB2.out.2)
      have hcat : L.take (j * 64) ++ s = L.take ((j + 1) * 64) := by rw [← hs, Nat.add_mul, Nat.one_mul, List.take_add]
      have HCT := Aside0.mk hcat
      clear hs hs64 hsz2 hcat
      go_wp2_with (first
        | (with_reducible refine wpList_load_mid rfl 54 _ rfl g (o + j * 64) rfl (u8v s) _ HR1.out Try.underlying54 rfl HI5.out ?_)
        | (with_reducible refine wpList_store_mid rfl 54 _ _ rfl wr.heap.size 0 (u8v s).toArray rfl rfl HT2.out HI4.out (all_oneCell_toArray (u8v_one s)) ?_)
        | (at_builtin; refine wpl_a8 (w0 := w) w.heap.size rfl _ _ rfl A1 (j * 64) cc (L.take (j * 64)) (some ⟨wr.heap.size, 0, none⟩) 64 64 s ((j + 1) * 64) (L.take ((j + 1) * 64)) rfl rfl HO1.out HB1.out HBW.out HBW.out.size (by omega) (by omega) HCT.out ?_; intro A2 c2 w1 hO hB))
      go_roundg (n - (j + 1))
      case measure => have := hk.out; omega
      case rel => exact ⟨j + 1, A2, c2, (by show n - (j + 1) + (j + 1) = n; omega), rfl, by go_num, ⟨hO.out, hB.out⟩⟩
    · obtain rfl : n = j := by omega
      have d1 : decide ((n : Int) < (n : Int)) = false := by simp
      go_wp2_with fail
      go_ret
      have h9 := hI.out.1
      rw [List.take_of_length_le (by omega), ← hL] at h9
      rw [← hL]
      exact ⟨A1, cc, rfl, h9, hI.out.2⟩
set_option maxHeartbeats 4000000 in
set_option maxRecDepth 100000 in
theorem dbytes_none (c : Nat) (w : World) :
    Calls Try.prog 29 #[.slice none 0 c] w fun e' w' => e' = .returned (.slice none 0 0) ∧ w = w' := by
  go_enter Try.func29, Try.ntmps29
  go_wp2_with fail
  go_loopg [3, 8] 0 (fun gk v3 v8 wr => v3 = .slice none 0 0 ∧ v8 = .int .i64 0 ∧ wr = w)
  case atStart => exact ⟨rfl, rfl, rfl⟩
  case round =>
    obtain ⟨rfl, rfl, rfl⟩ := hrel
    go_wp2_with fail
    go_ret
    exact ⟨rfl, rfl⟩
theorem dbytes_oc {base n c : Nat} {T : TypeId} {A : Option Addr} {L : List UInt8} {w : World} (h : Oc w base T 64 A n c (u8v L)) :
    Calls Try.prog 29 #[.slice A n c] w fun e' w' => ∃ A1 c1, e' = .returned (.slice A1 L.length c1) ∧ Ow w' w.heap.size A1 L.length c1 L ∧ Below w.heap.size w w' := by
  rcases h.addr with rfl | ⟨g, rfl, _⟩
  · have h0 : n = 0 := by
      rcases Nat.eq_zero_or_pos n with q | q
      · exact q
      · obtain ⟨_, e, _⟩ := h.head q
        cases e
    subst h0
    have hl := h.len
    rw [u8v_length] at hl
    obtain rfl : L = [] := List.eq_nil_of_length_eq_zero (by omega)
    refine (dbytes_none c w).mono ?_
    rintro e' w' ⟨rfl, rfl⟩
    exact ⟨none, 0, rfl, Ow.nil _ _, Below.refl _ _⟩
  · exact dbytes_any g 0 n c L w h.rc
theorem seenL_len (l : List UInt8) (row : List (Nat × List UInt8)) (n : Nat) (hl : l.length = n * 64) (h : ∀ p, p ∈ row → p.2.length = 64 ∧ p.1 < n) : (seenL l row).length = n * 64 := by
  induction row generalizing l with
  | nil => exact hl
  | cons p r ih =>
    have hp := h p List.mem_cons_self
    refine ih _ ?_ (fun q hq => h q (List.mem_cons_of_mem _ hq))
    rw [putL_length _ _ _ (by rw [hp.1, hl]; omega)]
    exact hl
set_option maxHeartbeats 1000000 in
set_option maxRecDepth 100000 in
theorem image_any (base g : Nat) (A : Option Addr) (n c : Nat) (B : Option Addr) (m e : Nat) (d : DV) (w : World) (h : DM w base g A n c B m e d) (ok : d.ok n) :
    Calls Try.prog 11 #[.pointer (some ⟨g, 0, none⟩)] w fun e' w' => ∃ A1 c1, e' = .returned (.slice A1 (n * 64) c1) ∧ Ow w' w.heap.size A1 (n * 64) c1 (seenL d.l d.row) ∧ Below w.heap.size w w' := by
  have hl := seenL_len d.l d.row n ok.len ok.each
  have HD := Aside0.mk h
  clear h
  go_enter Try.func11, Try.ntmps11
  go_wp2_with (first
    | (go_at_call 28; refine (seen_any base g A n c B m e d w HD.out ok).mono ?_; rintro e1 w1 ⟨A1, c1, rfl, hO, hB⟩; (have HO := Aside0.mk hO); (have HB := Aside0.mk hB); clear hO hB)
    | (go_at_call 29; refine (dbytes_oc HO.out).mono ?_; rintro e2 w2 ⟨A2, c2, rfl, hO2, hB2⟩; (have HO2 := Aside0.mk hO2); (have HB2 := Aside0.mk hB2); clear hO2 hB2))
  go_ret
  have h9 := HO2.out.mono HB.out.size
  rw [hl] at h9
  exact ⟨A2, c2, rfl, h9, below_then HB.out HB.out.size HB2.out⟩
end Go.Proofs.Ytcegphnhohpegaa
