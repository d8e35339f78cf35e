/- The walk of layer 5's own small example. -/
import Derived.Test.YtaoaenjhclicfabI6
import Derived.Test.YtaoaenjhclicfabB0
set_option linter.unusedVariables false
set_option linter.unusedSimpArgs false
namespace Go.Proofs.Ytaoaenjhclicfab
open Go.RowKit

theorem bel1 (W : World) (o : Obj) : Below W.heap.size W (W.alloc o) := (Below.refl _ _).alloc (Nat.le_refl _) o
def abc : List UInt8 := [97, 98, 99]
/-- What the small example keeps. -/
structure I05 (w : World) (g : Nat) (A1 : Option Addr) (c1 : Nat) (A2 : Option Addr) (c2 : Nat) (W : World) : Prop where
  row : W.heap[g]? = some (.cells #[.slice A1 3 c1, .slice A2 40 c2, .int .i64 0, .int .i64 0] 27)
  key : Bs W A1 3 c1 abc
  val : Bs W A2 40 c2 (List.replicate 40 0)
  bel : Below w.heap.size w W
theorem I05.step {w W W1 : World} {g : Nat} {A1 A2 : Option Addr} {c1 c2 : Nat} (h : I05 w g A1 c1 A2 c2 W) (hB : Below W.heap.size W W1) : I05 w g A1 c1 A2 c2 W1 :=
  ⟨row_below h.row hB, h.key.below hB, h.val.below hB, below_then h.bel h.bel.size hB⟩
set_option maxHeartbeats 4000000 in
set_option maxRecDepth 100000 in
theorem alive05_any (w : World) : Calls Try.prog 16 #[] w fun e w' => e = .returned (.bool true) ∧ Below w.heap.size w w' := by
  have kc := fun W C n c => Lib.run_convert_bytes_const (P := Try.prog) W 22 5 C n c Try.underlying22 Try.underlying5
  have kc2 : ∀ (W : World) (o : Obj) (C : Array Value) (n c : Nat), (convert 22 22 (.slice (some ⟨W.heap.size + 1, 0, none⟩) n c)).run Try.prog ((W.alloc o).alloc (.cells C 5)) = .ok (.slice (some ⟨W.heap.size + 1, 0, none⟩) n c) ((W.alloc o).alloc (.cells C 5 (C.size, C.size + 1))) := fun W o C n c => by
    have := kc (W.alloc o) C n c
    simpa using this
  have kc3 : ∀ (W : World) (o o' : Obj) (C : Array Value) (n c : Nat), (convert 22 22 (.slice (some ⟨W.heap.size + 1 + 1, 0, none⟩) n c)).run Try.prog (((W.alloc o).alloc o').alloc (.cells C 5)) = .ok (.slice (some ⟨W.heap.size + 1 + 1, 0, none⟩) n c) (((W.alloc o).alloc o').alloc (.cells C 5 (C.size, C.size + 1))) := fun W o o' C n c => by
    have := kc ((W.alloc o).alloc o') C n c
    simpa using this
  have hmk : ∀ W : World, (Instr.makeSlice 22 (.int .i64 40) (.int .i64 40)).run Try.prog W = .ok (.slice (some ⟨W.heap.size, 0, none⟩) 40 40) (W.alloc (.cells (madeCells #[.int .u8 0] 40) 5)) := mk8 40 (by omega)
  have hb1 := Aside0.mk (Bs.lit w w.heap.size rfl #[.int .u8 97, .int .u8 98, .int .u8 99] 5 (3, 4) 3 3 abc rfl rfl (by omega) (by omega) (by omega))
  have hb2 := Aside0.mk (Ow.made (w.alloc (.cells #[.int .u8 97, .int .u8 98, .int .u8 99] 5 (3, 4))) 0 (w.heap.size + 1) (by simp) (Nat.zero_le _) 40 (by omega)).bs
  go_enter Try.func16, Try.ntmps16
  go_wp2_with (first | (go_at_call 81; refine (iof_any _ _ _ _ _ _ _ _ _ (hb1.out.alloc _) hb2.out).mono ?_; rintro e w1 ⟨A1, c1, A2, c2, rfl, hO1, hO2, hB⟩; (have HO := Aside0.mk (And.intro hO1.bs (And.intro hO2.bs (below_then (((Below.refl w.heap.size w).alloc (Nat.le_refl _) _).alloc (by simp) _) (by simp; omega) hB))));  clear hO1 hO2 hB))
  have HI := Aside0.mk (show I05 w w1.heap.size A1 c1 A2 c2 (w1.alloc (.cells #[.slice A1 3 c1, .slice A2 40 c2, .int .i64 0, .int .i64 0] 27)) from ⟨heap_alloc_new _ _, HO.out.1.alloc _, HO.out.2.1.alloc _, HO.out.2.2.alloc HO.out.2.2.size _⟩)
  clear HO hb1 hb2 hmk
  generalize w1.heap.size = g at HI ⊢
  generalize w1.alloc (.cells #[.slice A1 3 c1, .slice A2 40 c2, .int .i64 0, .int .i64 0] 27) = w0 at HI ⊢
  have v1 : roomI 1 3 40 0 = 11 := by decide +kernel
  have v2 : farB 40 0 = true := by decide +kernel
  have v3 : longI 40 0 0 = 40 := by decide +kernel
  have v4 : rightB 1 3 40 0 0 = true := by decide +kernel
  have v5 : whyI 1 0 0 = 50 := by decide +kernel
  have v6 : cpI 2 = 240 := by decide +kernel
  have v7 : Lib.compareBytes [97] [97, 98] = -1 := by decide +kernel
  have v8 : kidI 3 1 = 10 := by decide +kernel
  have v9 : sameB abc (List.replicate 40 0) abc (List.replicate 40 0) 0 0 0 0 = true := by decide +kernel
  have v10 : genB 3 = true := by decide +kernel
  have v11 : mkI 1 = 16 := by decide +kernel
  have v12 : mvI 3 = 1600 := by decide +kernel
  have v13 : iwI 1 = 4 := by decide +kernel
  have v14 : hdI 2 = 16 := by decide +kernel
  go_wp2_with (first | (go_at_call 19; (refine (room_any _ _ _ _ _ _ _ _ _ _ (by omega) (by omega)).mono ?_); rintro e w2 ⟨rfl, hB⟩; rw [v1]; (replace HI := Aside0.mk (HI.out.step hB)); (obtain ⟨k0, k1, k2, k3⟩ := item_cells2 HI.out.row); clear hB) | (go_at_call 82; (refine (far_any _ _ _ _ _ _ _ _ _).mono ?_); rintro e w3 ⟨rfl, hB⟩; rw [v2]; (replace HI := Aside0.mk (HI.out.step hB)); (obtain ⟨k0, k1, k2, k3⟩ := item_cells2 HI.out.row); clear hB) | (go_at_call 83; (refine (long_any _ _ _ _ _ _ _ _ _).mono ?_); rintro e w4 ⟨rfl, hB⟩; rw [v3]; (replace HI := Aside0.mk (HI.out.step hB)); (obtain ⟨k0, k1, k2, k3⟩ := item_cells2 HI.out.row); clear hB) | (go_at_call 17; (refine (right_any _ _ _ _ _ _ _ _ _ _ (by omega) (by omega)).mono ?_); rintro e w5 ⟨rfl, hB⟩; rw [v4]; (replace HI := Aside0.mk (HI.out.step hB)); (obtain ⟨k0, k1, k2, k3⟩ := item_cells2 HI.out.row); clear hB) | (go_at_call 18; (refine (why_any _ _ _ _ _ _ _ _ (by omega) (by omega)).mono ?_); rintro e w6 ⟨rfl, hB⟩; rw [v5]; (replace HI := Aside0.mk (HI.out.step hB)); (obtain ⟨k0, k1, k2, k3⟩ := item_cells2 HI.out.row); clear hB) | (go_at_call 84; (refine (cap_any _ _).mono ?_); rintro e w7 ⟨rfl, hB⟩; rw [v6]; (replace HI := Aside0.mk (HI.out.step hB)); (obtain ⟨k0, k1, k2, k3⟩ := item_cells2 HI.out.row); clear hB) | (go_at_call 85; (refine (icompare_any (some ⟨w7.heap.size, 0, none⟩) 1 1 [97] (some ⟨w7.heap.size + 1, 0, none⟩) 2 2 [97, 98] _ ((Bs.lit w7 w7.heap.size rfl #[.int .u8 97] 5 (1, 2) 1 1 [97] rfl rfl (by omega) (by omega) (by omega)).alloc _) (Bs.lit (w7.alloc (.cells #[.int .u8 97] 5 (1, 2))) (w7.heap.size + 1) (by simp) #[.int .u8 97, .int .u8 98] 5 (2, 3) 2 2 [97, 98] rfl rfl (by omega) (by omega) (by omega))).mono ?_); rintro e w8 ⟨rfl, rfl⟩; rw [v7]) | (go_at_call 20; (refine (kid_any _ _ _ _ _ (by omega)).mono ?_); rintro e w9 ⟨rfl, hB⟩; rw [v8]; (replace HI := Aside0.mk ((((HI.out.step (bel1 _ _)).step (bel1 _ _)).step (bel1 _ _)).step hB)); (obtain ⟨k0, k1, k2, k3⟩ := item_cells2 HI.out.row); clear hB) | (go_at_call 86; (refine (isame_any _ _ _ _ _ _ _ _ _ _ _ _ _ _ _ _ _ _ _ _ _ ⟨HI.out.key, HI.out.val, HI.out.key, HI.out.val⟩).mono ?_); rintro e w10 ⟨rfl, hB⟩; rw [v9]; (replace HI := Aside0.mk (HI.out.step hB)); (obtain ⟨k0, k1, k2, k3⟩ := item_cells2 HI.out.row); clear hB) | (go_at_call 87; (refine (gen_any _ _).mono ?_); rintro e w11 ⟨rfl, rfl⟩; rw [v10]) | (go_at_call 88; (refine (maxKey_any _ _).mono ?_); rintro e w12 ⟨rfl, hB⟩; rw [v11]; (replace HI := Aside0.mk (HI.out.step hB)); (obtain ⟨k0, k1, k2, k3⟩ := item_cells2 HI.out.row); clear hB) | (go_at_call 89; (refine (maxValue_any _ _).mono ?_); rintro e w13 ⟨rfl, hB⟩; rw [v12]; (replace HI := Aside0.mk (HI.out.step hB)); (obtain ⟨k0, k1, k2, k3⟩ := item_cells2 HI.out.row); clear hB) | (go_at_call 90; (refine (idWidth_any _ _).mono ?_); rintro e w14 ⟨rfl, hB⟩; rw [v13]; (replace HI := Aside0.mk (HI.out.step hB)); (obtain ⟨k0, k1, k2, k3⟩ := item_cells2 HI.out.row); clear hB) | (go_at_call 91; (refine (head_any _ _).mono ?_); rintro e w15 ⟨rfl, hB⟩; rw [v14]; (replace HI := Aside0.mk (HI.out.step hB)); (obtain ⟨k0, k1, k2, k3⟩ := item_cells2 HI.out.row); clear hB))
  go_ret
  exact ⟨rfl, HI.out.bel⟩
end Go.Proofs.Ytaoaenjhclicfab
