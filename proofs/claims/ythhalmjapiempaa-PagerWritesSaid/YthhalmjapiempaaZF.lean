/- The walks of disk's bytes of sectors, and of a disk's Image. The walk of a disk's Sync. The walk of a disk's Crash. The walks of a disk's Copy, and of Write where it says no at once. -/
import Derived.Test.YthhalmjapiempaaZE
import Derived.StillTailTactics
import Derived.Deep.DeepCutAuto
set_option linter.unusedVariables false
set_option linter.unusedSimpArgs false
namespace Go.Proofs.Ythhalmjapiempaa
open Go.RowKit

/-- One element of a slice that is read. -/
theorem Rc.at_ {w : World} {k n c : Nat} {g o : Nat} {xs : List Value} (h : Rc w k (some ⟨g, o, none⟩) n c xs) (i : Nat) (hi : i < n) : w.rangeAt g (o + i * k) ((xs.drop (i * k)).take k) := by
  obtain ⟨ad, e, hx⟩ := h.cells (by omega)
  obtain rfl := Option.some.inj e
  intro j v hv
  have hj : j < k := by
    have := (List.getElem?_eq_some_iff.1 hv).1
    rw [List.length_take] at this
    omega
  rw [List.getElem?_take_of_lt hj, List.getElem?_drop] at hv
  have := hx (i * k + j) v hv
  rwa [Addr.add_mid, ← Nat.add_assoc] at this
theorem bs_row {w : World} {g n : Nat} {T : TypeId} {s : List UInt8} (h : w.heap[g]? = some (.cells (u8v s).toArray T)) (hs : s.length = n) (hn : n ≤ 140737488355328) : Bs w (some ⟨g, 0, none⟩) n n s :=
  ⟨hs, Nat.le_refl _, by omega, hn, fun _ => ⟨_, rfl, fun j hj => by
    rw [add_plain, cell_of_row _ _ _ _ _ _ h]
    simpa using u8v_get s j (by omega)⟩⟩
theorem u8v_seg (L : List UInt8) (a k : Nat) : ((u8v L).drop a).take k = u8v ((L.drop a).take k) := by simp [u8v, List.map_take, List.map_drop]
set_option maxHeartbeats 4000000 in
set_option maxRecDepth 100000 in
theorem dbytes_any (g o : Nat) (n c : Nat) (L : List UInt8) (w : World) (h : Rc w 64 (some ⟨g, o, none⟩) n c (u8v L)) :
    Calls Try.prog 49 #[.slice (some ⟨g, o, none⟩) n c] w fun e' w' => ∃ A1 c1, e' = .returned (.slice A1 L.length c1) ∧ Ow w' w.heap.size A1 L.length c1 L ∧ Below w.heap.size w w' := by
  have hL : L.length = n * 64 := by have := h.len; rwa [u8v_length] at this
  have hlim := h.lim
  have HR := Aside0.mk h
  clear h
  go_enter Try.func49, Try.ntmps49
  go_wp2_with fail
  go_loopg [3, 8] n (fun gk v3 v8 wr => ∃ (j : Nat) (A1 : Option Addr) (cc : Nat), Aside (gk + j = n) ∧ v3 = .slice A1 (j * 64) cc ∧ v8 = .int .i64 (j : Int) ∧ Aside0 (Ow wr w.heap.size A1 (j * 64) cc (L.take (j * 64)) ∧ Below w.heap.size w wr))
  case atStart => exact ⟨0, none, 0, rfl, rfl, rfl, ⟨Ow.nil _ _, Below.refl _ _⟩⟩
  case round =>
    obtain ⟨j, A1, cc, hk, rfl, rfl, hI⟩ := hrel
    have hjm : j ≤ n := by have := hk.out; omega
    rcases Nat.lt_or_ge j n with hlt | hge
    · have d1 : decide ((j : Int) < (n : Int)) = true := decide_eq_true (by omega)
      have hz := zero54
      obtain ⟨s, hs⟩ : ∃ s, (L.drop (j * 64)).take 64 = s := ⟨_, rfl⟩
      have hs64 : s.length = 64 := by rw [← hs, List.length_take, List.length_drop]; omega
      have HR1 := Aside0.mk (show wr.rangeAt g (o + j * 64) (u8v s) from by
        have := (HR.out.below hI.out.2).at_ j hlt
        rwa [u8v_seg, hs] at this)
      have hsz2 : (u8v s).toArray.size = 64 := by rw [List.size_toArray, u8v_length, hs64]
      have HB2 := Aside0.mk (box_new wr z64 100 (u8v s) (by rw [u8v_length, hs64]; kernel_rfl))
      have HT2 := Aside0.mk (show (wr.alloc (.cells z64 100)).there wr.heap.size 0 (u8v s).toArray.size from by rw [hsz2]; exact there_new wr z64 100 64 (by kernel_rfl))
      have HI4 := Aside0.mk (show (Try.prog.info? 100).map (·.size) = some (u8v s).toArray.size from by rw [hsz2]; kernel_rfl)
      have HI5 := Aside0.mk (show (Try.prog.info? 100).map (·.size) = some (u8v s).length from by rw [u8v_length, hs64]; kernel_rfl)
      obtain ⟨W1, hW1⟩ : ∃ X, (wr.alloc (.cells z64 100)).setCells wr.heap.size 0 (u8v s) = X := ⟨_, rfl⟩
      rw [hW1] at HB2
      have HS := Aside0.mk (And.intro hs hs64)
      have HO1 := Aside0.mk (hI.out.1.below HB2.out.2)
      have HB1 := Aside0.mk (bs_row HB2.out.1 hs64 (by omega))
      have HBW := Aside0.mk (below_then hI.out.2 hI.out.2.size HB2.out.2)
      have hcat : L.take (j * 64) ++ s = L.take ((j + 1) * 64) := by rw [← hs, Nat.add_mul, Nat.one_mul, List.take_add]
      have HCT := Aside0.mk hcat
      clear hs hs64 hsz2 hcat
      go_wp2_with (first
        | (with_reducible refine wpList_load_mid rfl 100 _ rfl g (o + j * 64) rfl (u8v s) _ HR1.out Try.underlying100 rfl HI5.out ?_)
        | (with_reducible refine wpList_store_mid rfl 100 _ _ rfl wr.heap.size 0 (u8v s).toArray rfl rfl HT2.out HI4.out (all_oneCell_toArray (u8v_one s)) ?_)
        | (at_builtin; refine wpl_a8 (w0 := w) w.heap.size rfl _ _ rfl A1 (j * 64) cc (L.take (j * 64)) (some ⟨wr.heap.size, 0, none⟩) 64 64 s ((j + 1) * 64) (L.take ((j + 1) * 64)) rfl rfl HO1.out HB1.out HBW.out HBW.out.size (by omega) (by omega) HCT.out ?_; intro A2 c2 w1 hO hB))
      go_roundg (n - (j + 1))
      case measure => have := hk.out; omega
      case rel => exact ⟨j + 1, A2, c2, (by show n - (j + 1) + (j + 1) = n; omega), rfl, by go_num, ⟨hO.out, hB.out⟩⟩
    · obtain rfl : n = j := by omega
      have d1 : decide ((n : Int) < (n : Int)) = false := by simp
      go_wp2_with fail
      go_ret
      have h9 := hI.out.1
      rw [List.take_of_length_le (by omega), ← hL] at h9
      rw [← hL]
      exact ⟨A1, cc, rfl, h9, hI.out.2⟩
set_option maxHeartbeats 4000000 in
set_option maxRecDepth 100000 in
theorem dbytes_none (c : Nat) (w : World) :
    Calls Try.prog 49 #[.slice none 0 c] w fun e' w' => e' = .returned (.slice none 0 0) ∧ w = w' := by
  go_enter Try.func49, Try.ntmps49
  go_wp2_with fail
  go_loopg [3, 8] 0 (fun gk v3 v8 wr => v3 = .slice none 0 0 ∧ v8 = .int .i64 0 ∧ wr = w)
  case atStart => exact ⟨rfl, rfl, rfl⟩
  case round =>
    obtain ⟨rfl, rfl, rfl⟩ := hrel
    go_wp2_with fail
    go_ret
    exact ⟨rfl, rfl⟩
theorem dbytes_oc {base n c : Nat} {T : TypeId} {A : Option Addr} {L : List UInt8} {w : World} (h : Oc w base T 64 A n c (u8v L)) :
    Calls Try.prog 49 #[.slice A n c] w fun e' w' => ∃ A1 c1, e' = .returned (.slice A1 L.length c1) ∧ Ow w' w.heap.size A1 L.length c1 L ∧ Below w.heap.size w w' := by
  rcases h.addr with rfl | ⟨g, rfl, _⟩
  · have h0 : n = 0 := by
      rcases Nat.eq_zero_or_pos n with q | q
      · exact q
      · obtain ⟨_, e, _⟩ := h.head q
        cases e
    subst h0
    have hl := h.len
    rw [u8v_length] at hl
    obtain rfl : L = [] := List.eq_nil_of_length_eq_zero (by omega)
    refine (dbytes_none c w).mono ?_
    rintro e' w' ⟨rfl, rfl⟩
    exact ⟨none, 0, rfl, Ow.nil _ _, Below.refl _ _⟩
  · exact dbytes_any g 0 n c L w h.rc
theorem seenL_len (l : List UInt8) (row : List (Nat × List UInt8)) (n : Nat) (hl : l.length = n * 64) (h : ∀ p, p ∈ row → p.2.length = 64 ∧ p.1 < n) : (seenL l row).length = n * 64 := by
  induction row generalizing l with
  | nil => exact hl
  | cons p r ih =>
    have hp := h p List.mem_cons_self
    refine ih _ ?_ (fun q hq => h q (List.mem_cons_of_mem _ hq))
    rw [putL_length _ _ _ (by rw [hp.1, hl]; omega)]
    exact hl
set_option maxHeartbeats 1000000 in
set_option maxRecDepth 100000 in
theorem image_any (base g : Nat) (A : Option Addr) (n c : Nat) (B : Option Addr) (m e : Nat) (d : DV) (w : World) (h : DM w base g A n c B m e d) (ok : d.ok n) :
    Calls Try.prog 17 #[.pointer (some ⟨g, 0, none⟩)] w fun e' w' => ∃ A1 c1, e' = .returned (.slice A1 (n * 64) c1) ∧ Ow w' w.heap.size A1 (n * 64) c1 (seenL d.l d.row) ∧ Below w.heap.size w w' := by
  have hl := seenL_len d.l d.row n ok.len ok.each
  have HD := Aside0.mk h
  clear h
  go_enter Try.func17, Try.ntmps17
  go_wp2_with (first
    | (go_at_call 50; refine (seen_any base g A n c B m e d w HD.out ok).mono ?_; rintro e1 w1 ⟨A1, c1, rfl, hO, hB⟩; (have HO := Aside0.mk hO); (have HB := Aside0.mk hB); clear hO hB)
    | (go_at_call 49; refine (dbytes_oc HO.out).mono ?_; rintro e2 w2 ⟨A2, c2, rfl, hO2, hB2⟩; (have HO2 := Aside0.mk hO2); (have HB2 := Aside0.mk hB2); clear hO2 hB2))
  go_ret
  have h9 := HO2.out.mono HB.out.size
  rw [hl] at h9
  exact ⟨A2, c2, rfl, h9, below_then HB.out HB.out.size HB2.out⟩
end Go.Proofs.Ythhalmjapiempaa

set_option linter.unusedVariables false
set_option linter.unusedSimpArgs false
namespace Go.Proofs.Ythhalmjapiempaa
open Go.RowKit

set_option maxHeartbeats 1000000 in
set_option maxRecDepth 100000 in
theorem sync_down (base g : Nat) (A : Option Addr) (n c : Nat) (B : Option Addr) (m e : Nat) (d : DV) (w : World) (h : DM w base g A n c B m e d) (hd : d.down = true) :
    Calls Try.prog 75 #[.pointer (some ⟨g, 0, none⟩)] w fun e' w' => e' = .returned (.int .i64 10) ∧ w = w' := by
  obtain ⟨c0, c1, c2, c3, c4, c5⟩ := row6_cells h.row
  rw [hd] at c5
  clear hd
  go_enter Try.func75, Try.ntmps75
  go_wp2_with fail
  go_ret
  exact ⟨rfl, rfl⟩
def SyncQ (w : World) (base g n : Nat) (A B : Option Addr) (d : DV) (w' : World) : Prop := ∃ A1 c1, DM w' base g A1 n c1 none 0 0 { opD d with l := seenL d.l d.row, row := [] } ∧ Fr g A B w w' ∧ New w A A1
theorem opd_ok {d : DV} {n : Nat} (ok : d.ok n) : (opD d).ok n := ⟨ok.len, ok.each, ok.lim0, ok.lim, by
  have := ok.fuse
  show -1 ≤ (if d.fuse - 1 < -1 then -1 else d.fuse - 1)
  split <;> omega⟩
/-- A disk whose sectors are new, and of which nothing is written since. -/
theorem DM.sync {w w1 : World} {base g n c m e : Nat} {A B A1 : Option Addr} {c1 : Nat} {d : DV} {L : List UInt8} (h : DM w base g A n c B m e d) (hB : Below w.heap.size w w1) (hO : Oc w1 w.heap.size 100 64 A1 n c1 (u8v L)) :
    DM ((w1.setCell ⟨g, 1, none⟩ (.slice A1 n c1)).setCell ⟨g, 2, none⟩ (.slice none 0 0)) base g A1 n c1 none 0 0 { d with l := L, row := [] } := by
  have hgl := (Array.getElem?_eq_some_iff.1 h.row).1
  have hr1 := (hB.block g hgl).trans h.row
  have ho := ((OnlyB.refl g w1).set 1 (.slice A1 n c1)).set 2 (.slice none 0 0)
  have na : ∀ k, A1 = some ⟨k, 0, none⟩ → k ≠ g := fun k q => by have := hO.lo k q; omega
  exact ⟨heap_setCell_same _ g 2 _ _ _ (heap_setCell_same w1 g 1 _ _ _ hr1), h.lo, (hO.mono (Nat.le_trans h.lo (Nat.le_of_lt hgl))).only ho na, Oc.nil _ _ _ _, na, fun _ q => (by cases q), fun _ _ _ q => (by cases q)⟩
set_option maxHeartbeats 4000000 in
set_option maxRecDepth 100000 in
theorem sync_ok (base g : Nat) (A : Option Addr) (n c : Nat) (B : Option Addr) (m e : Nat) (d : DV) (w : World) (h : DM w base g A n c B m e d) (ok : d.ok n) (hd : d.down = false) (h0 : 0 ≤ d.ops) (h1 : d.ops ≤ 1000000) (h3 : d.fuse ≤ 9223372036854775807) (hf : d.fuse ≠ 0) :
    Calls Try.prog 75 #[.pointer (some ⟨g, 0, none⟩)] w fun e' w' => e' = .returned (.int .i64 0) ∧ SyncQ w base g n A B d w' := by
  obtain ⟨c0, c1, c2, c3, c4, c5⟩ := row6_cells h.row
  rw [hd] at c5
  have hgl := (Array.getElem?_eq_some_iff.1 h.row).1
  have HD := Aside0.mk h
  have hdn : (!(opD d).down) = true := by unfold opD; simp [hf]
  have HL := Aside0.mk (And.intro hgl h.lo)
  clear hd h hf hgl
  go_enter Try.func75, Try.ntmps75
  go_wp2_with (first
    | (go_at_call 95; refine (op_any base g A n c B m e d w HD.out h0 h1 ok.fuse h3).mono ?_; rintro e1 w1 ⟨rfl, hM, hO⟩; rw [hdn]; (have HM := Aside0.mk (And.intro hM hO)); clear hM hO; (obtain ⟨c0, c1, c2, c3, c4, c5⟩ := row6_cells HM.out.1.row))
    | (go_at_call 50; refine (seen_any base g A n c B m e (opD d) w1 HM.out.1 (opd_ok ok)).mono ?_; rintro e2 w2 ⟨A1, cc, rfl, hO, hB⟩; (have HS := Aside0.mk (And.intro hO hB)); (have HK := Aside0.mk (HM.out.1.sync hB hO)); (have hr2 := (hB.block g (Array.getElem?_eq_some_iff.1 HM.out.1.row).1).trans HM.out.1.row); (obtain ⟨e0, e1, e2, e3, e4, e5⟩ := row6_cells hr2); (have ef := fun j => Go.Joins.unfrozen_of_block hr2 j); clear hO hB hr2))
  go_ret
  have f1 := (Fr.of_only (g := g) (A := A) (B := B) HM.out.2).trans (Fr.of_below (A := A) (B := B) HS.out.2) (.inl rfl) (.inl rfl)
  have f2 := f1.trans (Fr.of_only (g := g) (A := A) (B := B) (((OnlyB.refl g w2).set 1 (.slice A1 n cc)).set 2 (.slice none 0 0))) (.inl rfl) (.inl rfl)
  exact ⟨rfl, A1, cc, HK.out, f2, .inr fun k q => Nat.le_trans HM.out.2.size (HS.out.1.lo k q)⟩
set_option maxHeartbeats 4000000 in
set_option maxRecDepth 100000 in
theorem sync_fuse (base g : Nat) (A : Option Addr) (n c : Nat) (B : Option Addr) (m e : Nat) (d : DV) (w : World) (h : DM w base g A n c B m e d) (hd : d.down = false) (h0 : 0 ≤ d.ops) (h1 : d.ops ≤ 1000000) (hf : d.fuse = 0) :
    Calls Try.prog 75 #[.pointer (some ⟨g, 0, none⟩)] w fun e' w' => e' = .returned (.int .i64 10) ∧ DM w' base g A n c B m e (opD d) ∧ OnlyB g w w' := by
  obtain ⟨c0, c1, c2, c3, c4, c5⟩ := row6_cells h.row
  rw [hd] at c5
  have HD := Aside0.mk h
  have hdn : (!(opD d).down) = false := by unfold opD; simp [hf]
  have HF := Aside0.mk hf
  clear hd h hf
  go_enter Try.func75, Try.ntmps75
  go_wp2_with (go_at_call 95; refine (op_any base g A n c B m e d w HD.out h0 h1 (by have := HF.out; omega) (by have := HF.out; omega)).mono ?_; rintro e1 w1 ⟨rfl, hM, hO⟩; rw [hdn]; (have HM := Aside0.mk (And.intro hM hO)); clear hM hO)
  go_ret
  exact ⟨rfl, HM.out⟩
end Go.Proofs.Ythhalmjapiempaa

set_option linter.unusedVariables false
set_option linter.unusedSimpArgs false
namespace Go.Proofs.Ythhalmjapiempaa
open Go.RowKit

/-- A disk of which one sector is another. -/
theorem DM.put {w : World} {base g n c m e ga : Nat} {B : Option Addr} {d : DV} (h : DM w base g (some ⟨ga, 0, none⟩) n c B m e d) (i : Nat) (hi : i < n) (s : List UInt8) (hs : s.length = 64) :
    DM (w.setCells ga (i * 64) (u8v s)) base g (some ⟨ga, 0, none⟩) n c B m e { d with l := putL d.l s (64 * i) } ∧ OnlyB ga w (w.setCells ga (i * 64) (u8v s)) := by
  obtain ⟨k1, k2⟩ := h.sl.put i hi (u8v s) (by rw [u8v_length, hs]) (u8v_one s)
  rw [u8v_put _ _ _ _ hs, Nat.mul_comm i 64] at k1
  have hne := h.na ga rfl
  have hgl := (Array.getElem?_eq_some_iff.1 h.row).1
  have k1' : Oc (w.setCells ga (i * 64) (u8v s)) base 100 64 (some ⟨ga, 0, none⟩) n c (u8v (putL d.l s (64 * i))) := by rw [Nat.mul_comm i 64]; exact k1
  exact ⟨⟨(k2.block g hgl hne.symm).trans h.row, h.lo, k1', h.sr.only k2 (fun j q => (h.ab ga j rfl q).symm), h.na, h.nb, h.ab⟩, k2⟩
end Go.Proofs.Ythhalmjapiempaa

set_option linter.unusedVariables false
set_option linter.unusedSimpArgs false
namespace Go.Proofs.Ythhalmjapiempaa
open Go.RowKit

set_option maxHeartbeats 4000000 in
set_option maxRecDepth 100000 in
theorem write_down (base g : Nat) (A : Option Addr) (n c : Nat) (B : Option Addr) (m e : Nat) (d : DV) (at_ : Int) (K : Option Addr) (kn kc : Nat) (w : World) (h : DM w base g A n c B m e d) (hd : d.down = true) (hkl : kn ≤ 140737488355328) :
    Calls Try.prog 76 #[.pointer (some ⟨g, 0, none⟩), .int .i64 at_, .slice K kn kc] w fun e' w' => e' = .returned (.int .i64 10) ∧ w = w' := by
  obtain ⟨c0, c1, c2, c3, c4, c5⟩ := row6_cells h.row
  rw [hd] at c5
  clear hd
  go_enter Try.func76, Try.ntmps76
  go_wp2_with fail
  go_ret
  exact ⟨rfl, rfl⟩
set_option maxHeartbeats 4000000 in
set_option maxRecDepth 100000 in
theorem write_arg (base g : Nat) (A : Option Addr) (n c : Nat) (B : Option Addr) (m e : Nat) (d : DV) (at_ : Int) (K : Option Addr) (kn kc : Nat) (w : World) (h : DM w base g A n c B m e d) (hd : d.down = false) (hkl : kn ≤ 140737488355328) (hm : kn / 64 = 0 ∨ kn % 64 ≠ 0) :
    Calls Try.prog 76 #[.pointer (some ⟨g, 0, none⟩), .int .i64 at_, .slice K kn kc] w fun e' w' => e' = .returned (.int .i64 1) ∧ w = w' := by
  obtain ⟨c0, c1, c2, c3, c4, c5⟩ := row6_cells h.row
  rw [hd] at c5
  clear hd
  obtain ⟨q, hv⟩ : ∃ q : Int, (kn : Int) / 64 = q := ⟨_, rfl⟩
  obtain ⟨r, hr⟩ : ∃ r : Int, (kn : Int) % 64 = r := ⟨_, rfl⟩
  by_cases hq : q = 0
  · have q0 : (q == 0) = true := beq_iff_eq.2 hq
    clear hq
    go_enter Try.func76, Try.ntmps76
    go_wp2_with fail
    go_ret
    exact ⟨rfl, rfl⟩
  · have q0 : (q == 0) = false := beq_eq_false_iff_ne.2 hq
    have r0 : (r == 0) = false := beq_eq_false_iff_ne.2 (by omega)
    clear hq
    go_enter Try.func76, Try.ntmps76
    go_wp2_with fail
    go_ret
    exact ⟨rfl, rfl⟩
set_option maxHeartbeats 4000000 in
set_option maxRecDepth 100000 in
theorem write_range (base g : Nat) (A : Option Addr) (n c : Nat) (B : Option Addr) (m e : Nat) (d : DV) (at_ : Int) (K : Option Addr) (kn kc : Nat) (w : World) (h : DM w base g A n c B m e d) (hd : d.down = false) (hkl : kn ≤ 140737488355328) (hm : ¬ (kn / 64 = 0 ∨ kn % 64 ≠ 0)) (hh : hasB n at_ ((kn / 64 : Nat) : Int) = false) :
    Calls Try.prog 76 #[.pointer (some ⟨g, 0, none⟩), .int .i64 at_, .slice K kn kc] w fun e' w' => e' = .returned (.int .i64 11) ∧ w = w' := by
  obtain ⟨c0, c1, c2, c3, c4, c5⟩ := row6_cells h.row
  rw [hd] at c5
  clear hd
  obtain ⟨q, hq⟩ : ∃ q, kn / 64 = q := ⟨_, rfl⟩
  rw [hq] at hh
  have hv : (kn : Int) / 64 = (q : Int) := by omega
  have hr : (kn : Int) % 64 = 0 := by omega
  have q0 : ((q : Int) == 0) = false := beq_eq_false_iff_ne.2 (by omega)
  have HD := Aside0.mk h
  have HH := Aside0.mk hh
  clear hh hq hm h
  go_enter Try.func76, Try.ntmps76
  go_wp2_with (go_at_call 84; refine (hasd_any base g A n c B m e d at_ (q : Int) w HD.out).mono ?_; rintro e1 w1 ⟨rfl, rfl⟩; rw [HH.out])
  go_ret
  exact ⟨rfl, rfl⟩
end Go.Proofs.Ythhalmjapiempaa
