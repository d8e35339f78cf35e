/- The walk of a disk's Sync. -/
import Derived.Test.YtcegphnhohpegaaD6
set_option linter.unusedVariables false
set_option linter.unusedSimpArgs false
namespace Go.Proofs.Ytcegphnhohpegaa
open Go.RowKit

set_option maxHeartbeats 1000000 in
set_option maxRecDepth 100000 in
theorem sync_down (base g : Nat) (A : Option Addr) (n c : Nat) (B : Option Addr) (m e : Nat) (d : DV) (w : World) (h : DM w base g A n c B m e d) (hd : d.down = true) :
    Calls Try.prog 10 #[.pointer (some ⟨g, 0, none⟩)] w fun e' w' => e' = .returned (.int .i64 10) ∧ w = w' := by
  obtain ⟨c0, c1, c2, c3, c4, c5⟩ := row6_cells h.row
  rw [hd] at c5
  clear hd
  go_enter Try.func10, Try.ntmps10
  go_wp2_with fail
  go_ret
  exact ⟨rfl, rfl⟩
def SyncQ (w : World) (base g n : Nat) (A B : Option Addr) (d : DV) (w' : World) : Prop := ∃ A1 c1, DM w' base g A1 n c1 none 0 0 { opD d with l := seenL d.l d.row, row := [] } ∧ Fr g A B w w' ∧ New w A A1
theorem opd_ok {d : DV} {n : Nat} (ok : d.ok n) : (opD d).ok n := ⟨ok.len, ok.each, ok.lim0, ok.lim, by
  have := ok.fuse
  show -1 ≤ (if d.fuse - 1 < -1 then -1 else d.fuse - 1)
  split <;> omega⟩
/-- A disk whose sectors are new, and of which nothing is written since. -/
theorem DM.sync {w w1 : World} {base g n c m e : Nat} {A B A1 : Option Addr} {c1 : Nat} {d : DV} {L : List UInt8} (h : DM w base g A n c B m e d) (hB : Below w.heap.size w w1) (hO : Oc w1 w.heap.size 54 64 A1 n c1 (u8v L)) :
    DM ((w1.setCell ⟨g, 1, none⟩ (.slice A1 n c1)).setCell ⟨g, 2, none⟩ (.slice none 0 0)) base g A1 n c1 none 0 0 { d with l := L, row := [] } := by
  have hgl := (Array.getElem?_eq_some_iff.1 h.row).1
  have hr1 := (hB.block g hgl).trans h.row
  have ho := ((OnlyB.refl g w1).set 1 (.slice A1 n c1)).set 2 (.slice none 0 0)
  have na : ∀ k, A1 = some ⟨k, 0, none⟩ → k ≠ g := fun k q => by have := hO.lo k q; omega
  exact ⟨heap_setCell_same _ g 2 _ _ _ (heap_setCell_same w1 g 1 _ _ _ hr1), h.lo, (hO.mono (Nat.le_trans h.lo (Nat.le_of_lt hgl))).only ho na, Oc.nil _ _ _ _, na, fun _ q => (by cases q), fun _ _ _ q => (by cases q)⟩
set_option maxHeartbeats 4000000 in
set_option maxRecDepth 100000 in
theorem sync_ok (base g : Nat) (A : Option Addr) (n c : Nat) (B : Option Addr) (m e : Nat) (d : DV) (w : World) (h : DM w base g A n c B m e d) (ok : d.ok n) (hd : d.down = false) (h0 : 0 ≤ d.ops) (h1 : d.ops ≤ 1000000) (h3 : d.fuse ≤ 9223372036854775807) (hf : d.fuse ≠ 0) :
    Calls Try.prog 10 #[.pointer (some ⟨g, 0, none⟩)] w fun e' w' => e' = .returned (.int .i64 0) ∧ SyncQ w base g n A B d w' := by
  obtain ⟨c0, c1, c2, c3, c4, c5⟩ := row6_cells h.row
  rw [hd] at c5
  have hgl := (Array.getElem?_eq_some_iff.1 h.row).1
  have HD := Aside0.mk h
  have hdn : (!(opD d).down) = true := by unfold opD; simp [hf]
  have HL := Aside0.mk (And.intro hgl h.lo)
  clear hd h hf hgl
  go_enter Try.func10, Try.ntmps10
  go_wp2_with (first
    | (go_at_call 27; refine (op_any base g A n c B m e d w HD.out h0 h1 ok.fuse h3).mono ?_; rintro e1 w1 ⟨rfl, hM, hO⟩; rw [hdn]; (have HM := Aside0.mk (And.intro hM hO)); clear hM hO; (obtain ⟨c0, c1, c2, c3, c4, c5⟩ := row6_cells HM.out.1.row))
    | (go_at_call 28; refine (seen_any base g A n c B m e (opD d) w1 HM.out.1 (opd_ok ok)).mono ?_; rintro e2 w2 ⟨A1, cc, rfl, hO, hB⟩; (have HS := Aside0.mk (And.intro hO hB)); (have HK := Aside0.mk (HM.out.1.sync hB hO)); (have hr2 := (hB.block g (Array.getElem?_eq_some_iff.1 HM.out.1.row).1).trans HM.out.1.row); (obtain ⟨e0, e1, e2, e3, e4, e5⟩ := row6_cells hr2); (have ef := fun j => Go.Joins.unfrozen_of_block hr2 j); clear hO hB hr2))
  go_ret
  have f1 := (Fr.of_only (g := g) (A := A) (B := B) HM.out.2).trans (Fr.of_below (A := A) (B := B) HS.out.2) (.inl rfl) (.inl rfl)
  have f2 := f1.trans (Fr.of_only (g := g) (A := A) (B := B) (((OnlyB.refl g w2).set 1 (.slice A1 n cc)).set 2 (.slice none 0 0))) (.inl rfl) (.inl rfl)
  exact ⟨rfl, A1, cc, HK.out, f2, .inr fun k q => Nat.le_trans HM.out.2.size (HS.out.1.lo k q)⟩
set_option maxHeartbeats 4000000 in
set_option maxRecDepth 100000 in
theorem sync_fuse (base g : Nat) (A : Option Addr) (n c : Nat) (B : Option Addr) (m e : Nat) (d : DV) (w : World) (h : DM w base g A n c B m e d) (hd : d.down = false) (h0 : 0 ≤ d.ops) (h1 : d.ops ≤ 1000000) (hf : d.fuse = 0) :
    Calls Try.prog 10 #[.pointer (some ⟨g, 0, none⟩)] w fun e' w' => e' = .returned (.int .i64 10) ∧ DM w' base g A n c B m e (opD d) ∧ OnlyB g w w' := by
  obtain ⟨c0, c1, c2, c3, c4, c5⟩ := row6_cells h.row
  rw [hd] at c5
  have HD := Aside0.mk h
  have hdn : (!(opD d).down) = false := by unfold opD; simp [hf]
  have HF := Aside0.mk hf
  clear hd h hf
  go_enter Try.func10, Try.ntmps10
  go_wp2_with (go_at_call 27; refine (op_any base g A n c B m e d w HD.out h0 h1 (by have := HF.out; omega) (by have := HF.out; omega)).mono ?_; rintro e1 w1 ⟨rfl, hM, hO⟩; rw [hdn]; (have HM := Aside0.mk (And.intro hM hO)); clear hM hO)
  go_ret
  exact ⟨rfl, HM.out⟩
end Go.Proofs.Ytcegphnhohpegaa
