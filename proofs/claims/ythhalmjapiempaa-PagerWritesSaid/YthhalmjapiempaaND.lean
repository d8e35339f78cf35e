/- The walk of law12's alive. -/
import Derived.Test.YthhalmjapiempaaNC
import Derived.Test.YthhalmjapiempaaNB
import Derived.Test.YthhalmjapiempaaZH
import Derived.LaidEqlPtr
set_option linter.unusedVariables false
set_option linter.unusedSimpArgs false
namespace Go.Proofs.Ythhalmjapiempaa
open Go.RowKit

def moA (t : Int) : Obj := .cells #[.int .i64 1, .int .i64 0, .int .i64 0, .int .i64 t, .int .i64 2, .int .i64 3, .int .i64 0, .slice none 0 0] 36
theorem rcw_lit {W : World} (hs : List (Int × Option Addr × Nat × Nat)) (n : Nat) (hn : hs.length = n) (hl : n ≤ 1000000000) (C : Array Value) (T : TypeId) (hC : C = (wv hs).toArray) : Rc (W.alloc (.cells C T)) 2 (some ⟨W.heap.size, 0, none⟩) n n (wv hs) := by
  subst hC
  have := World.ownsRow_lit (base := 0) (e := T) (size := 2) W (wv hs).toArray n (Nat.zero_le _) (by simp [maxLen]; omega) (by simp [wv_len, hn])
  have h : Oc (W.alloc (.cells (wv hs).toArray T)) 0 T 2 (some ⟨W.heap.size, 0, none⟩) n n (wv hs) := ⟨by simpa using this, wv_one hs, hl⟩
  exact h.rc
theorem Up.ab {d : DV} (h : Up d) (hr : d.row = []) {op : Int} (h0 : 0 ≤ d.ops) (h1 : d.ops ≤ op) : AB d 0 op := ⟨by rw [hr]; exact Nat.le_refl _, h0, h1, by rw [h.fuse]; decide⟩
set_option maxHeartbeats 16000000 in
set_option maxRecDepth 100000 in
theorem alive12_any (w : World) : Calls Try.prog 11 #[] w fun e w' => e = .returned (.bool true) ∧ Below w.heap.size w w' := by
  have F := Aside0.mk dFm_ok
  have C := Aside0.mk dCm_ok
  have PG := Aside0.mk pagesA
  have NW := Aside0.mk newA_ok
  go_enter Try.func11, Try.ntmps11
  go_upto_region 5 with (first
    | (go_at_call 12; refine (new_h (w0 := w) 100 w (Below.refl _ _)).mono ?_; rintro e1 w1 ⟨g, rfl, hH, _⟩; (have H1 := Aside0.mk (show DH w g [] (newDV 100) w1 from hH)); clear hH)
    | (go_at_call 13; refine (pnew_none w2).mono ?_; rintro e3 w3 ⟨rfl, rfl⟩)
    | (go_at_call 13; refine (pnew_h H1.out).mono ?_; rintro e2 w2 ⟨rfl, hH, _⟩; (obtain ⟨gp, hgp⟩ : ∃ x, w1.heap.size = x := ⟨_, rfl⟩); rw [hgp] at hH; rw [hgp]; (have H2 := Aside0.mk hH); clear hH hgp)
    | fail)
  go_upto_region 6 with fail
  obtain ⟨N3, hN3⟩ : ∃ x, w2.heap.size = x := ⟨_, rfl⟩
  have HN3 := Aside0.mk (show w.heap.size ≤ N3 ∧ gp < N3 by rw [← hN3]; exact ⟨H2.out.bel.size, H2.out.lt (gp, pgo g) List.mem_cons_self⟩)
  have hD3 := H2.out.lit (moA 2)
  rw [hN3] at hD3 ⊢
  obtain ⟨w3, hw3⟩ : ∃ X, w2.alloc (moA 2) = X := ⟨_, rfl⟩
  rw [hw3] at hD3
  show Code.wp Try.prog _ _ _ (w2.alloc (moA 2))
  rw [hw3]
  have H3 := Aside0.mk hD3
  clear hD3 hw3 hN3
  go_upto_region 7 with (go_at_call 40; refine (repeat_one 256 _ 1 7 _ (Bs.lit w3 _ rfl _ _ _ 1 1 [7] rfl rfl (by omega) (by omega) (by omega)) (by omega) (by omega) mul_256).mono ?_; rintro e4 w4 ⟨gb, rfl, hg, hgl, hb, hB⟩; (have hBB := below_then ((Below.refl _ w3).alloc (Nat.le_refl _) _) (by simp) hB); (obtain ⟨ob, hh⟩ := H3.out.holdx hBB gb (Nat.le_trans (by simp) hg) hgl); (have H4 := Aside0.mk (And.intro hh hb)); (have HGB := Aside0.mk (Nat.lt_of_lt_of_le (H3.out.lt _ List.mem_cons_self) (Nat.le_trans (by simp) hg))); clear hg hgl hb hB hBB hh)
  have hr0 := H4.out.1.row (i := N3) (o := moA 2) (List.mem_cons_of_mem _ List.mem_cons_self)
  clear hr0
  have hB5 := (Below.refl _ w4).alloc (Nat.le_refl _) (.cells #[.int .i64 2, .slice (some ⟨gb, 0, none⟩) 256 256] 65)
  have hD5 := H4.out.1.step hB5
  have hr0 := hD5.row (i := N3) (o := moA 2) (List.mem_cons_of_mem _ List.mem_cons_self)
  obtain ⟨y0, y1, y2, y3, y4, y5, y6, y7⟩ := row8_cells hr0
  have H5 := Aside0.mk (And.intro hD5 (And.intro (rcw_lit (W := w4) [(2, some ⟨gb, 0, none⟩, 256, 256)] 1 rfl (by omega) #[.int .i64 2, .slice (some ⟨gb, 0, none⟩) 256 256] 65 rfl) (Hs.one (w0 := w) (R := (gb, ob) :: (N3, moA 2) :: [(gp, pgo g)]) (i := 2) (H4.out.2.below hB5) (fun _ a e => by injection e with e; rw [← e]; exact .inr ⟨_, List.mem_cons_self⟩) (by decide))))
  clear hr0 hB5 hD5
  go_upto_region 8 with (go_at_call 23; refine (format_h H5.out.1 (List.mem_cons_of_mem _ (List.mem_cons_of_mem _ List.mem_cons_self)) _ 1 1 _ lA (mAt 2) none 0 0 0 H5.out.2.1 H5.out.2.2 rfl (Bs.nil _ _ _ (by decide)) ((newDV_up 100).ab rfl (by decide) (by decide)) (by decide +kernel) (by decide) (by decide) (by decide)).mono ?_; rintro e6 w6 ⟨rfl, hH⟩; rw [F.out.1]; (have H6 := Aside0.mk (show DH w g _ dFm w6 from hH)); clear hH)
  clear y0 y1 y2 y3 y4 y5 y6 y7
  have hr0 := H6.out.row (i := N3) (o := moA 2) (List.mem_cons_of_mem _ List.mem_cons_self)
  have yf := fun j => Go.Joins.unfrozen_of_block hr0 j
  obtain ⟨y0, y1, y2, y3, y4, y5, y6, y7⟩ := row8_cells hr0
  go_upto_region 9 with fail
  have hD7 : DH w g ((N3, moA 3) :: (gb, ob) :: [(gp, pgo g)]) dFm (w6.setCell ⟨N3, 3, none⟩ (.int .i64 3)) := by
    refine (H6.out.drop (R1 := (N3, moA 2) :: (gb, ob) :: [(gp, pgo g)]) ?_).turn ((OnlyB.refl N3 w6).set 3 _) HN3.out.1 ?_ (heap_setCell_same w6 N3 3 _ _ _ hr0)
    · intro p hp
      simp only [List.mem_cons, List.not_mem_nil, or_false] at hp ⊢
      rcases hp with h | h | h
      · exact .inr (.inl h)
      · exact .inl h
      · exact .inr (.inr h)
    · intro p hp
      have h1 := HN3.out.2
      have h2 : N3 < gb := HGB.out
      simp only [List.mem_cons, List.not_mem_nil, or_false] at hp
      rcases hp with rfl | rfl
      · show gb ≠ N3; omega
      · show gp ≠ N3; omega
  have hb7 := (H4.out.1.drop (R1 := [(gb, ob)]) (fun p hp => by rw [List.mem_singleton.1 hp]; exact List.mem_cons_self)).keeps (hD7.drop (R1 := [(gb, ob)]) (fun p hp => by rw [List.mem_singleton.1 hp]; exact List.mem_cons_of_mem _ List.mem_cons_self)) (A := some ⟨gb, 0, none⟩) (n := 256) (fun _ a e => by injection e with e; rw [← e]; exact .inr ⟨_, List.mem_cons_self⟩) H4.out.2
  obtain ⟨w7, hw7⟩ : ∃ X, w6.setCell ⟨N3, 3, none⟩ (.int .i64 3) = X := ⟨_, rfl⟩
  rw [hw7] at hD7 hb7 ⊢
  have hB8 := (Below.refl _ w7).alloc (Nat.le_refl _) (.cells #[.int .i64 2, .slice (some ⟨gb, 0, none⟩) 256 256] 65)
  have hD8 := hD7.step hB8
  have H8 := Aside0.mk (And.intro hD8 (And.intro (rcw_lit (W := w7) [(2, some ⟨gb, 0, none⟩, 256, 256)] 1 rfl (by omega) #[.int .i64 2, .slice (some ⟨gb, 0, none⟩) 256 256] 65 rfl) (Hs.one (w0 := w) (R := (N3, moA 3) :: (gb, ob) :: [(gp, pgo g)]) (i := 2) (hb7.below hB8) (fun _ a e => by injection e with e; rw [← e]; exact .inr ⟨_, List.mem_cons_of_mem _ List.mem_cons_self⟩) (by decide))))
  have hr8 := hD8.row (i := N3) (o := moA 3) List.mem_cons_self
  clear hr0 hw7 hD7 hb7 hB8 hD8 y0 y1 y2 y3 y4 y5 y6 y7 yf
  obtain ⟨y0, y1, y2, y3, y4, y5, y6, y7⟩ := row8_cells hr8
  clear hr8
  go_upto_region 10 with (go_at_call 14; refine (commit_h H8.out.1 (List.mem_cons_of_mem _ (List.mem_cons_of_mem _ List.mem_cons_self)) _ 1 1 _ lA (mAt 3) none 0 0 4 H8.out.2.1 H8.out.2.2 rfl (Bs.nil _ _ _ (by decide)) (F.out.2.1.ab F.out.2.2.2.2.2.1 (by rw [F.out.2.2.2.1]; decide) (by rw [F.out.2.2.2.1]; decide)) (by decide +kernel) (by decide) (by decide) (by decide)).mono ?_; rintro e9 w9 ⟨rfl, hH⟩; rw [C.out.1]; (have H9 := Aside0.mk (show DH w g _ dCm w9 from hH)); clear hH)
  clear y0 y1 y2 y3 y4 y5 y6 y7
  have NA : ∀ A1 c1, (newM dCm).agg A1 c1 = #[.int .i64 1, .int .i64 0, .int .i64 0, .int .i64 3, .int .i64 2, .int .i64 3, .int .i64 0, .slice A1 0 c1] := fun A1 c1 => by rw [NW.out.2.2]; rfl
  replace NA := Aside0.mk NA
  go_upto_region 11 with (go_at_call 16; refine (newest_h H9.out (List.mem_cons_of_mem _ (List.mem_cons_of_mem _ List.mem_cons_self))).mono ?_; rintro e10 w10 ⟨A1, c1, rfl, hb, hB⟩; rw [NA.out, NW.out.1, NW.out.2.1]; rw [NW.out.2.2] at hb; (have H10 := Aside0.mk (And.intro (H9.out.step hB) (show Bs w10 A1 0 c1 [] from hb))); clear hb hB)
  obtain ⟨N10, hN10⟩ : ∃ x, w10.heap.size = x := ⟨_, rfl⟩
  obtain ⟨o10, ho10⟩ : ∃ o, Obj.cells #[.int .i64 1, .int .i64 0, .int .i64 0, .int .i64 3, .int .i64 2, .int .i64 3, .int .i64 0, .slice A1 0 c1] 36 = o := ⟨_, rfl⟩
  have hD11 := H10.out.1.lit o10
  rw [hN10] at hD11 ⊢
  rw [ho10]
  obtain ⟨w11, hw11⟩ : ∃ X, w10.alloc o10 = X := ⟨_, rfl⟩
  rw [hw11] at hD11 ⊢
  have H11 := Aside0.mk hD11
  have HO := Aside0.mk ho10
  have hc1 := H10.out.2.cap
  clear hD11 hw11 ho10 hN10
  go_upto_region 12 with (go_at_call 35; refine (ppage_h H11.out (List.mem_cons_of_mem _ (List.mem_cons_of_mem _ (List.mem_cons_of_mem _ List.mem_cons_self))) 2).mono ?_; rintro e12 w12 ⟨A2, c2, rfl, hO, hB⟩; rw [PG.out.1, bA_len] at hO; rw [PG.out.1, PG.out.2.1, bA_len]; (have H12 := Aside0.mk (And.intro (H11.out.step hB) hO.bs)); clear hO hB)
  go_upto_region 13 with (go_at_call 35; refine (ppage_h H12.out.1 (List.mem_cons_of_mem _ (List.mem_cons_of_mem _ (List.mem_cons_of_mem _ List.mem_cons_self))) 3).mono ?_; rintro e13 w13 ⟨A3, c3, rfl, hO, hB⟩; rw [PG.out.2.2]; (have H13 := Aside0.mk (And.intro (H12.out.1.step hB) (H12.out.2.below hB))); clear hO hB)
  have hr3 := H13.out.1.row (i := N3) (o := moA 3) (List.mem_cons_of_mem _ List.mem_cons_self)
  have hr4 := H13.out.1.row (i := N10) (o := o10) List.mem_cons_self
  rw [← HO.out] at hr4
  have hb13 := (H4.out.1.drop (R1 := [(gb, ob)]) (fun p hp => by rw [List.mem_singleton.1 hp]; exact List.mem_cons_self)).keeps (H13.out.1.drop (R1 := [(gb, ob)]) (fun p hp => by rw [List.mem_singleton.1 hp]; exact List.mem_cons_of_mem _ (List.mem_cons_of_mem _ List.mem_cons_self))) (A := some ⟨gb, 0, none⟩) (n := 256) (fun _ a e => by injection e with e; rw [← e]; exact .inr ⟨_, List.mem_cons_self⟩) H4.out.2
  have HB13 := Aside0.mk hb13
  obtain ⟨y0, y1, y2, y3, y4, y5, y6, y7⟩ := row8_cells hr3
  obtain ⟨z0, z1, z2, z3, z4, z5, z6, z7⟩ := row8_cells hr4
  clear hr3 hr4 hb13
  obtain ⟨ji, hji⟩ : ∃ j, Try.prog.info? 86 = some j := Option.isSome_iff_exists.1 (by kernel_rfl)
  have hpp := fun W => run_eql_ptr_same (P := Try.prog) (tp := 28) (te := 86) W ⟨g, 0, none⟩ Try.underlying28 hji
  clear hji
  go_wp2_with (first
    | (go_at_call 41; refine (msame_any 1 0 0 3 2 3 0 none 0 0 [] 1 0 0 3 2 3 0 A1 0 c1 [] w13 (Bs.nil _ _ _ (by decide)) (Bs.nil _ _ _ hc1)).mono ?_; rintro e14 w14 ⟨rfl, hB⟩; (have hs : msameB 1 0 0 3 2 3 0 [] 1 0 0 3 2 3 0 [] = true := by decide); rw [hs]; (have H14 := Aside0.mk (And.intro (H13.out.1.step hB) (And.intro (H13.out.2.below hB) (HB13.out.below hB)))); clear hB hs)
    | (go_at_call 37; refine (equal8_any _ 256 256 _ A2 256 c2 _ w14 H14.out.2.2 H14.out.2.1).mono ?_; rintro e15 w15 ⟨rfl, rfl⟩; (have hs : (List.replicate 256 (7 : UInt8) == bA) = true := beq_iff_eq.2 rfl); rw [hs]; clear hs)
    | (go_at_call 28; refine (pages_h H14.out.1 (List.mem_cons_of_mem _ (List.mem_cons_of_mem _ (List.mem_cons_of_mem _ List.mem_cons_self)))).mono ?_; rintro e15 w15 ⟨rfl, rfl⟩; rw [C.out.2.2.1])
    | (go_at_call 30; refine (plimit_h H14.out.1 (List.mem_cons_of_mem _ (List.mem_cons_of_mem _ (List.mem_cons_of_mem _ List.mem_cons_self)))).mono ?_; rintro e15 w15 ⟨rfl, rfl⟩; rw [C.out.2.2.2.2.1])
    | (go_at_call 32; refine (ops_h H14.out.1).mono ?_; rintro e15 w15 ⟨rfl, rfl⟩; rw [C.out.2.2.2.1])
    | (go_at_call 42; refine (pdisk_h H14.out.1 (List.mem_cons_of_mem _ (List.mem_cons_of_mem _ (List.mem_cons_of_mem _ List.mem_cons_self)))).mono ?_; rintro e15 w15 ⟨rfl, rfl⟩)
    | fail)
  go_ret
  exact ⟨rfl, H14.out.1.bel⟩
end Go.Proofs.Ythhalmjapiempaa
