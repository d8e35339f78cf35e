/- The walks of page's writer: item and kid. -/
import Derived.Test.YtbjfklgmbeaaoaaGreatKA
set_option linter.unusedVariables false
set_option linter.unusedSimpArgs false
namespace Go.Proofs.YtbjfklgmbeaaoaaGreat
open Go.RowKit

/-- A writer that came in, and rows that stand beside it. -/
structure HWi (w : World) (base gw g2 c : Nat) (R : List (Nat × Obj)) (s : WS) (W : World) : Prop where
  wr : Wr W base gw g2 c s
  only : Only2 gw g2 w W
  rows : ∀ p ∈ R, W.heap[p.1]? = some p.2 ∧ p.1 ≠ gw ∧ p.1 ≠ g2
theorem HWi.step {w W W1 : World} {base gw g2 c : Nat} {R : List (Nat × Obj)} {s : WS} (h : HWi w base gw g2 c R s W) (hB : Below W.heap.size W W1) : HWi w base gw g2 c R s W1 :=
  ⟨h.wr.below hB, h.only.trans (Only2.of_below hB), fun p hp => ⟨(hB.block _ (Array.getElem?_eq_some_iff.1 (h.rows p hp).1).1).trans (h.rows p hp).1, (h.rows p hp).2⟩⟩
theorem HWi.writer {w W W1 : World} {base gw g2 c : Nat} {R : List (Nat × Obj)} {s s1 : WS} (h : HWi w base gw g2 c R s W) (ho : Only2 gw g2 W W1) (h1 : Wr W1 base gw g2 c s1) : HWi w base gw g2 c R s1 W1 :=
  ⟨h1, h.only.trans ho, fun p hp => ⟨(ho.block _ (Array.getElem?_eq_some_iff.1 (h.rows p hp).1).1 (h.rows p hp).2.1 (h.rows p hp).2.2).trans (h.rows p hp).1, (h.rows p hp).2⟩⟩
theorem HWi.bs {w W : World} {base gw g2 c0 : Nat} {R : List (Nat × Obj)} {s : WS} {A : Option Addr} {n c : Nat} {xs : List UInt8} (h : HWi w base gw g2 c0 R s W) (hb : Bs w A n c xs) (h1 : ∀ ad, A = some ad → 0 < n → ad.block ≠ gw) (h2 : ∀ ad, A = some ad → 0 < n → ad.block ≠ g2) : Bs W A n c xs := hb.only2 h.only h1 h2
theorem HWi.lit2 {w : World} {base gw g2 c : Nat} {s : WS} (h : Wr w base gw g2 c s) (a b : Obj) : HWi w base gw g2 c [(w.heap.size, a), (w.heap.size + 1, b)] s ((w.alloc a).alloc b) := by
  have hB := below_two w a b
  refine ⟨h.below hB, Only2.of_below hB, fun p hp => ?_⟩
  have := h.lt
  rcases List.mem_cons.1 hp with rfl | hp
  · exact ⟨(((Below.refl _ (w.alloc a)).alloc (Nat.le_refl _) b).block _ (by simp)).trans (heap_alloc_new w a), by show w.heap.size ≠ gw; omega, by show w.heap.size ≠ g2; omega⟩
  · obtain rfl := List.mem_singleton.1 hp
    exact ⟨heap_two w a b, by show w.heap.size + 1 ≠ gw; omega, by show w.heap.size + 1 ≠ g2; omega⟩
/-- Bytes that are apart from a writer. -/
structure Ap (gw g2 : Nat) (A : Option Addr) (n : Nat) : Prop where
  one : ∀ ad, A = some ad → 0 < n → ad.block ≠ gw
  two : ∀ ad, A = some ad → 0 < n → ad.block ≠ g2
def itemS (s : WS) (g : Int) (q : IV) : WS :=
  let s5 := bytesS (bytesS (putS (putS (putS s (q.k.length : Int) 1) (if q.r = 0 then 0 else 1) 1) (longI q.v.length q.s q.r) 2) q.k) q.v
  if q.r = 0 then s5 else putS s5 q.r (iwI g)
def kidS (s : WS) (g : Int) (q : KV) : WS := putS (bytesS (putS s (q.k.length : Int) 1) q.k) q.r (iwI g)

set_option maxHeartbeats 3000000 in
set_option maxRecDepth 100000 in
theorem wkid_any (base gw g2 c : Nat) (s : WS) (pk : Option Addr) (pkn pkc : Nat) (qk : List UInt8) (pr g : Int) (w : World) (h : Wr w base gw g2 c s) (hk : Bs w pk pkn pkc qk) (ha : Ap gw g2 pk pkn) (hr : -9223372036854775808 ≤ pr ∧ pr ≤ 9223372036854775807) :
    Calls Tryz.prog 35 #[.agg #[.pointer (some ⟨gw, 0, none⟩), .int .i64 g], .agg #[.slice pk pkn pkc, .int .i64 pr]] w fun e w' => e = .returned (.tuple #[]) ∧ Wr w' base gw g2 c (kidS s g ⟨qk, pr⟩) ∧ Only2 gw g2 w w' := by
  have H0 := Aside0.mk (HWi.lit2 h (.cells #[.pointer (some ⟨gw, 0, none⟩), .int .i64 g] 81) (.cells #[.slice pk pkn pkc, .int .i64 pr] 74))
  have HX := Aside0.mk (And.intro hk ha)
  have hkl := hk.lim
  have HKL := Aside0.mk hk.len
  clear h hk ha
  go_enter Tryz.func35, Tryz.ntmps35
  go_upto_region 1 with fail
  obtain ⟨w0, hw0⟩ : ∃ X, (w.alloc (.cells #[.pointer (some ⟨gw, 0, none⟩), .int .i64 g] 81)).alloc (.cells #[.slice pk pkn pkc, .int .i64 pr] 74) = X := ⟨_, rfl⟩
  obtain ⟨N1, hN1⟩ : ∃ X, w.heap.size + 1 = X := ⟨_, rfl⟩
  obtain ⟨N, hN⟩ : ∃ X, w.heap.size = X := ⟨_, rfl⟩
  rw [hw0, hN1, hN] at H0
  rw [hw0, hN1, hN]
  clear hw0 hN1 hN
  have HS := Aside0.mk (show ∀ (s' : WS) (w' : World), HWi w base gw g2 c [(N, (.cells #[.pointer (some ⟨gw, 0, none⟩), .int .i64 g] 81)), (N1, (.cells #[.slice pk pkn pkc, .int .i64 pr] 74))] s' w' → w'.cell? ⟨N, 0, none⟩ = some (.pointer (some ⟨gw, 0, none⟩)) ∧ w'.cell? ⟨N, 1, none⟩ = some (.int .i64 g) ∧ w'.cell? ⟨N1, 0, none⟩ = some (.slice pk pkn pkc) ∧ w'.cell? ⟨N1, 1, none⟩ = some (.int .i64 pr) from fun s' w' h => by
    have r1 := (h.rows (N, (.cells #[.pointer (some ⟨gw, 0, none⟩), .int .i64 g] 81)) List.mem_cons_self).1
    have r2 := (h.rows (N1, (.cells #[.slice pk pkn pkc, .int .i64 pr] 74)) (List.mem_cons_of_mem _ List.mem_cons_self)).1
    exact ⟨by rw [cell_of_row _ _ _ _ _ _ r1]; rfl, by rw [cell_of_row _ _ _ _ _ _ r1]; rfl, by rw [cell_of_row _ _ _ _ _ _ r2]; rfl, by rw [cell_of_row _ _ _ _ _ _ r2]; rfl⟩)
  obtain ⟨y0, y1, z0, z1⟩ := HS.out _ _ H0.out
  go_upto_region 2 with (go_at_call 43; refine (put_any base gw g2 c s (pkn : Int) 1 w0 (by omega) H0.out.wr).mono ?_; rintro e w1 ⟨rfl, hW, hO, _⟩; (have H1 := Aside0.mk (H0.out.writer hO hW)); clear hW hO; clear y0 y1 z0 z1; (obtain ⟨y0, y1, z0, z1⟩ := HS.out _ _ H1.out))
  go_upto_region 3 with (go_at_call 44; refine (wbytes_any base gw g2 c _ pk pkn pkc qk w1 H1.out.wr (H1.out.bs HX.out.1 HX.out.2.one HX.out.2.two) HX.out.2.one HX.out.2.two).mono ?_; rintro e w2 ⟨rfl, hW, hO, _⟩; (have H2 := Aside0.mk (H1.out.writer hO hW)); clear hW hO)
  clear y0 y1 z0 z1
  have h3 := H2.out.step (below_drew (Below.refl _ _))
  obtain ⟨u0, hu0⟩ : ∃ X, w2.drew = X := ⟨_, rfl⟩
  rw [hu0] at h3
  have H3 := Aside0.mk h3
  clear h3
  refine wp_region_M (fun j => decide (j < 8)) (fun w' => w'.cell? ⟨N, 0, none⟩ = some (.pointer (some ⟨gw, 0, none⟩)) ∧ w'.cell? ⟨N, 1, none⟩ = some (.int .i64 g) ∧ w'.cell? ⟨N1, 0, none⟩ = some (.slice pk pkn pkc) ∧ w'.cell? ⟨N1, 1, none⟩ = some (.int .i64 pr)) (by kernel_rfl) ?_
  rw [hu0]
  clear hu0
  refine wpAnyM_take (i := 0) (v := ?_) (by simp only [List.getElem?_toArray, List.getElem?_cons_succ, List.getElem?_cons_zero]; rfl) (by kernel_rfl) (by kernel_rfl) (by kernel_rfl) (by kernel_rfl) (by exact fun _ _ _ h => h) (Or.inl ⟨by rfl, ?_⟩) (HS.out _ _ H3.out) ?_
  rotate_left
  · (intro w' hSw; (try dsimp only at hSw); go_simp; try with_reducible rfl)
  try simp only [Act.put, List.setIfInBounds_toArray, List.set_cons_zero, List.set_cons_succ]
  refine wpAnyM_take (i := 1) (v := ?_) (by simp only [List.getElem?_toArray, List.getElem?_cons_succ, List.getElem?_cons_zero]; rfl) (by kernel_rfl) (by kernel_rfl) (by kernel_rfl) (by kernel_rfl) (by exact fun _ _ _ h => h) (Or.inl ⟨by rfl, ?_⟩) (HS.out _ _ H3.out) ?_
  rotate_left
  · (intro w' hSw; (try dsimp only at hSw); go_simp; try with_reducible rfl)
  try simp only [Act.put, List.setIfInBounds_toArray, List.set_cons_zero, List.set_cons_succ]
  refine wpAnyM_take (i := 2) (v := ?_) (by simp only [List.getElem?_toArray, List.getElem?_cons_succ, List.getElem?_cons_zero]; rfl) (by kernel_rfl) (by kernel_rfl) (by kernel_rfl) (by kernel_rfl) (by exact fun _ _ _ h => h) (Or.inl ⟨by rfl, ?_⟩) (HS.out _ _ H3.out) ?_
  rotate_left
  · (intro w' hSw; (try dsimp only at hSw); go_simp; try with_reducible rfl)
  try simp only [Act.put, List.setIfInBounds_toArray, List.set_cons_zero, List.set_cons_succ]
  refine wpAnyM_take (i := 3) (v := ?_) (by simp only [List.getElem?_toArray, List.getElem?_cons_succ, List.getElem?_cons_zero]; rfl) (by kernel_rfl) (by kernel_rfl) (by kernel_rfl) (by kernel_rfl) (by exact fun _ _ _ h => h) (Or.inl ⟨by rfl, ?_⟩) (HS.out _ _ H3.out) ?_
  rotate_left
  · (intro w' hSw; (try dsimp only at hSw); go_simp; try with_reducible rfl)
  try simp only [Act.put, List.setIfInBounds_toArray, List.set_cons_zero, List.set_cons_succ]
  refine wpAnyM_take (i := 4) (v := ?_) (by simp only [List.getElem?_toArray, List.getElem?_cons_succ, List.getElem?_cons_zero]; rfl) (by kernel_rfl) (by kernel_rfl) (by kernel_rfl) (by kernel_rfl) (by exact fun _ _ _ h => h) (Or.inl ⟨by rfl, ?_⟩) (HS.out _ _ H3.out) ?_
  rotate_left
  · (intro w' hSw; (try dsimp only at hSw); go_simp; try with_reducible rfl)
  try simp only [Act.put, List.setIfInBounds_toArray, List.set_cons_zero, List.set_cons_succ]
  refine wpAnyM_take (i := 5) (v := ?_) (by simp only [List.getElem?_toArray, List.getElem?_cons_succ, List.getElem?_cons_zero]; rfl) (by kernel_rfl) (by kernel_rfl) (by kernel_rfl) (by kernel_rfl) (by exact fun _ _ _ h => h) (Or.inl ⟨by rfl, ?_⟩) (HS.out _ _ H3.out) ?_
  rotate_left
  · (intro w' hSw; (try dsimp only at hSw); go_simp; try with_reducible rfl)
  try simp only [Act.put, List.setIfInBounds_toArray, List.set_cons_zero, List.set_cons_succ]
  refine wpAnyM_one (i := 6) (by kernel_rfl) (by simp only [List.getElem?_toArray, List.getElem?_cons_succ, List.getElem?_cons_zero]; rfl) ?_
  go_wp2_with (go_at_call 42; refine (idWidth_any g u0).mono ?_; rintro e u1 ⟨rfl, hB⟩; (have H4 := Aside0.mk (H3.out.step hB)); clear hB)
  refine ⟨HS.out _ _ H4.out, ?_⟩
  try simp only [Act.put, List.setIfInBounds_toArray, List.set_cons_zero, List.set_cons_succ]
  refine wpAnyM_one (i := 7) (by kernel_rfl) (by simp only [List.getElem?_toArray, List.getElem?_cons_succ, List.getElem?_cons_zero]; rfl) ?_
  go_wp2_with (go_at_call 43; refine (put_any base gw g2 c _ pr (iwI g) u1 hr H4.out.wr).mono ?_; rintro e u2 ⟨rfl, hW, hO, _⟩; (have H5 := Aside0.mk (H4.out.writer hO hW)); clear hW hO)
  refine ⟨HS.out _ _ H5.out, ?_⟩
  try simp only [Act.put, List.setIfInBounds_toArray, List.set_cons_zero, List.set_cons_succ]
  refine wpAnyM_done (by kernel_rfl) ?_ _
  go_end0
  refine ⟨rfl, ?_, H5.out.only⟩
  have h := H5.out.wr
  rw [← HKL.out] at h
  exact h
set_option maxHeartbeats 3000000 in
set_option maxRecDepth 100000 in
theorem witem_any (base gw g2 c : Nat) (s : WS) (pk : Option Addr) (pkn pkc : Nat) (qk : List UInt8) (pv : Option Addr) (pvn pvc : Nat) (qv : List UInt8) (ps pr g : Int) (w : World) (h : Wr w base gw g2 c s) (hk : Bs w pk pkn pkc qk) (ha : Ap gw g2 pk pkn) (hv : Bs w pv pvn pvc qv) (ha2 : Ap gw g2 pv pvn) (hsb : -9223372036854775808 ≤ ps ∧ ps ≤ 9223372036854775807) (hrb : -9223372036854775808 ≤ pr ∧ pr ≤ 9223372036854775807) :
    Calls Tryz.prog 36 #[.agg #[.pointer (some ⟨gw, 0, none⟩), .int .i64 g], .agg #[.slice pk pkn pkc, .slice pv pvn pvc, .int .i64 ps, .int .i64 pr]] w fun e w' => e = .returned (.tuple #[]) ∧ Wr w' base gw g2 c (itemS s g ⟨qk, qv, ps, pr⟩) ∧ Only2 gw g2 w w' := by
  have H0 := Aside0.mk (HWi.lit2 h (.cells #[.pointer (some ⟨gw, 0, none⟩), .int .i64 g] 81) (.cells #[.slice pk pkn pkc, .slice pv pvn pvc, .int .i64 ps, .int .i64 pr] 44))
  have HX := Aside0.mk (And.intro hk (And.intro ha (And.intro hv ha2)))
  have hkl := hk.lim
  have hvl := hv.lim
  have HKL := Aside0.mk (And.intro hk.len hv.len)
  have HLG := Aside0.mk (show -9223372036854775808 ≤ longI pvn ps pr ∧ longI pvn ps pr ≤ 9223372036854775807 by unfold longI; split <;> omega)
  have HRB := Aside0.mk hrb
  clear h hk ha hv ha2 hsb hrb
  go_enter Tryz.func36, Tryz.ntmps36
  go_upto_region 1 with fail
  obtain ⟨w0, hw0⟩ : ∃ X, (w.alloc (.cells #[.pointer (some ⟨gw, 0, none⟩), .int .i64 g] 81)).alloc (.cells #[.slice pk pkn pkc, .slice pv pvn pvc, .int .i64 ps, .int .i64 pr] 44) = X := ⟨_, rfl⟩
  obtain ⟨N1, hN1⟩ : ∃ X, w.heap.size + 1 = X := ⟨_, rfl⟩
  obtain ⟨N, hN⟩ : ∃ X, w.heap.size = X := ⟨_, rfl⟩
  rw [hw0, hN1, hN] at H0
  rw [hw0, hN1, hN]
  clear hw0 hN1 hN
  have HS := Aside0.mk (show ∀ (s' : WS) (w' : World), HWi w base gw g2 c [(N, (.cells #[.pointer (some ⟨gw, 0, none⟩), .int .i64 g] 81)), (N1, (.cells #[.slice pk pkn pkc, .slice pv pvn pvc, .int .i64 ps, .int .i64 pr] 44))] s' w' → w'.cell? ⟨N, 0, none⟩ = some (.pointer (some ⟨gw, 0, none⟩)) ∧ w'.cell? ⟨N, 1, none⟩ = some (.int .i64 g) ∧ w'.cell? ⟨N1, 0, none⟩ = some (.slice pk pkn pkc) ∧ w'.cell? ⟨N1, 1, none⟩ = some (.slice pv pvn pvc) ∧ w'.cell? ⟨N1, 2, none⟩ = some (.int .i64 ps) ∧ w'.cell? ⟨N1, 3, none⟩ = some (.int .i64 pr) from fun s' w' h => by
    have r1 := (h.rows (N, (.cells #[.pointer (some ⟨gw, 0, none⟩), .int .i64 g] 81)) List.mem_cons_self).1
    have r2 := (h.rows (N1, (.cells #[.slice pk pkn pkc, .slice pv pvn pvc, .int .i64 ps, .int .i64 pr] 44)) (List.mem_cons_of_mem _ List.mem_cons_self)).1
    obtain ⟨c0, c1, c2, c3⟩ := item_cells2 r2
    exact ⟨by rw [cell_of_row _ _ _ _ _ _ r1]; rfl, by rw [cell_of_row _ _ _ _ _ _ r1]; rfl, c0, c1, c2, c3⟩)
  obtain ⟨y0, y1, z0, z1, z2, z3⟩ := HS.out _ _ H0.out
  by_cases qr : pr = 0
  case pos =>
    subst qr
    go_upto_region 6 with (first
      | (go_at_call 43; refine (put_any base gw g2 c (putS s (pkn : Int) 1) 0 1 w1 (by omega) H1.out.wr).mono ?_; rintro e w2 ⟨rfl, hW, hO, _⟩; (have H2 := Aside0.mk (H1.out.writer hO hW)); clear hW hO; clear y0 y1 z0 z1 z2 z3; (obtain ⟨y0, y1, z0, z1, z2, z3⟩ := HS.out _ _ H2.out))
      | (go_at_call 43; refine (put_any base gw g2 c s (pkn : Int) 1 w0 (by omega) H0.out.wr).mono ?_; rintro e w1 ⟨rfl, hW, hO, _⟩; (have H1 := Aside0.mk (H0.out.writer hO hW)); clear hW hO; clear y0 y1 z0 z1 z2 z3; (obtain ⟨y0, y1, z0, z1, z2, z3⟩ := HS.out _ _ H1.out))
      | fail)
    clear y0 y1 z0 z1 z2 z3
    have h3 := H2.out.step (below_drew (Below.refl _ _))
    obtain ⟨u0, hu0⟩ : ∃ X, w2.drew = X := ⟨_, rfl⟩
    rw [hu0] at h3
    have H3 := Aside0.mk h3
    clear h3
    refine wp_region_M (fun j => decide (j < 5)) (fun w' => w'.cell? ⟨N, 0, none⟩ = some (.pointer (some ⟨gw, 0, none⟩)) ∧ w'.cell? ⟨N, 1, none⟩ = some (.int .i64 g) ∧ w'.cell? ⟨N1, 0, none⟩ = some (.slice pk pkn pkc) ∧ w'.cell? ⟨N1, 1, none⟩ = some (.slice pv pvn pvc) ∧ w'.cell? ⟨N1, 2, none⟩ = some (.int .i64 ps) ∧ w'.cell? ⟨N1, 3, none⟩ = some (.int .i64 0)) (by kernel_rfl) ?_
    rw [hu0]
    clear hu0
    refine wpAnyM_take (i := 0) (v := ?_) (by simp only [List.getElem?_toArray, List.getElem?_cons_succ, List.getElem?_cons_zero]; rfl) (by kernel_rfl) (by kernel_rfl) (by kernel_rfl) (by kernel_rfl) (by exact fun _ _ _ h => h) (Or.inl ⟨by rfl, ?_⟩) (HS.out _ _ H3.out) ?_
    rotate_left
    · (intro w' hSw; (try dsimp only at hSw); go_simp; try with_reducible rfl)
    try simp only [Act.put, List.setIfInBounds_toArray, List.set_cons_zero, List.set_cons_succ]
    refine wpAnyM_take (i := 1) (v := ?_) (by simp only [List.getElem?_toArray, List.getElem?_cons_succ, List.getElem?_cons_zero]; rfl) (by kernel_rfl) (by kernel_rfl) (by kernel_rfl) (by kernel_rfl) (by exact fun _ _ _ h => h) (Or.inl ⟨by rfl, ?_⟩) (HS.out _ _ H3.out) ?_
    rotate_left
    · (intro w' hSw; (try dsimp only at hSw); go_simp; try with_reducible rfl)
    try simp only [Act.put, List.setIfInBounds_toArray, List.set_cons_zero, List.set_cons_succ]
    refine wpAnyM_take (i := 2) (v := ?_) (by simp only [List.getElem?_toArray, List.getElem?_cons_succ, List.getElem?_cons_zero]; rfl) (by kernel_rfl) (by kernel_rfl) (by kernel_rfl) (by kernel_rfl) (by exact fun _ _ _ h => h) (Or.inl ⟨by rfl, ?_⟩) (HS.out _ _ H3.out) ?_
    rotate_left
    · (intro w' hSw; (try dsimp only at hSw); go_simp; try with_reducible rfl)
    try simp only [Act.put, List.setIfInBounds_toArray, List.set_cons_zero, List.set_cons_succ]
    refine wpAnyM_one (i := 3) (by kernel_rfl) (by simp only [List.getElem?_toArray, List.getElem?_cons_succ, List.getElem?_cons_zero]; rfl) ?_
    go_wp2_with (go_at_call 69; refine (long_any pk pkn pkc pv pvn pvc ps 0 u0).mono ?_; rintro e u1 ⟨rfl, hB⟩; (have H4 := Aside0.mk (H3.out.step hB)); clear hB)
    refine ⟨HS.out _ _ H4.out, ?_⟩
    try simp only [Act.put, List.setIfInBounds_toArray, List.set_cons_zero, List.set_cons_succ]
    refine wpAnyM_one (i := 4) (by kernel_rfl) (by simp only [List.getElem?_toArray, List.getElem?_cons_succ, List.getElem?_cons_zero]; rfl) ?_
    go_wp2_with (go_at_call 43; refine (put_any base gw g2 c _ (longI pvn ps 0) 2 u1 HLG.out H4.out.wr).mono ?_; rintro e u2 ⟨rfl, hW, hO, _⟩; (have H5 := Aside0.mk (H4.out.writer hO hW)); clear hW hO)
    refine ⟨HS.out _ _ H5.out, ?_⟩
    try simp only [Act.put, List.setIfInBounds_toArray, List.set_cons_zero, List.set_cons_succ]
    refine wpAnyM_done (by kernel_rfl) ?_ _
    obtain ⟨y0, y1, z0, z1, z2, z3⟩ := HS.out _ _ H5.out
    obtain ⟨s3, hs3⟩ : ∃ x, putS (putS (putS s (pkn : Int) 1) 0 1) (longI pvn ps 0) 2 = x := ⟨_, rfl⟩
    rw [hs3] at H5
    have HS3 := Aside0.mk hs3
    clear hs3
    go_upto_region 9 with (first
      | (go_at_call 44; refine (wbytes_any base gw g2 c (bytesS s3 qk) pv pvn pvc qv w6 H6.out.wr (H6.out.bs HX.out.2.2.1 HX.out.2.2.2.one HX.out.2.2.2.two) HX.out.2.2.2.one HX.out.2.2.2.two).mono ?_; rintro e w7 ⟨rfl, hW, hO, _⟩; (have H7 := Aside0.mk (H6.out.writer hO hW)); clear hW hO)
      | (go_at_call 44; refine (wbytes_any base gw g2 c s3 pk pkn pkc qk u2 H5.out.wr (H5.out.bs HX.out.1 HX.out.2.1.one HX.out.2.1.two) HX.out.2.1.one HX.out.2.1.two).mono ?_; rintro e w6 ⟨rfl, hW, hO, _⟩; (have H6 := Aside0.mk (H5.out.writer hO hW)); clear hW hO; clear y0 y1 z0 z1 z2 z3; (obtain ⟨y0, y1, z0, z1, z2, z3⟩ := HS.out _ _ H6.out))
      | fail)
    clear y0 y1 z0 z1 z2 z3
    go_wp2_with fail
    go_end0
    refine ⟨rfl, ?_, H7.out.only⟩
    have h := H7.out.wr
    rw [← HS3.out] at h
    unfold itemS
    simp only [if_true, HKL.out.1, HKL.out.2]
    exact h
  case neg =>
    have g1 : (pr != 0) = true := bne_iff_ne.2 qr
    have HR0 := Aside0.mk qr
    clear qr
    go_upto_region 6 with (first
      | (go_at_call 43; refine (put_any base gw g2 c (putS s (pkn : Int) 1) 1 1 w1 (by omega) H1.out.wr).mono ?_; rintro e w2 ⟨rfl, hW, hO, _⟩; (have H2 := Aside0.mk (H1.out.writer hO hW)); clear hW hO; clear y0 y1 z0 z1 z2 z3; (obtain ⟨y0, y1, z0, z1, z2, z3⟩ := HS.out _ _ H2.out))
      | (go_at_call 43; refine (put_any base gw g2 c s (pkn : Int) 1 w0 (by omega) H0.out.wr).mono ?_; rintro e w1 ⟨rfl, hW, hO, _⟩; (have H1 := Aside0.mk (H0.out.writer hO hW)); clear hW hO; clear y0 y1 z0 z1 z2 z3; (obtain ⟨y0, y1, z0, z1, z2, z3⟩ := HS.out _ _ H1.out))
      | fail)
    clear y0 y1 z0 z1 z2 z3
    have h3 := H2.out.step (below_drew (Below.refl _ _))
    obtain ⟨u0, hu0⟩ : ∃ X, w2.drew = X := ⟨_, rfl⟩
    rw [hu0] at h3
    have H3 := Aside0.mk h3
    clear h3
    refine wp_region_M (fun j => decide (j < 5)) (fun w' => w'.cell? ⟨N, 0, none⟩ = some (.pointer (some ⟨gw, 0, none⟩)) ∧ w'.cell? ⟨N, 1, none⟩ = some (.int .i64 g) ∧ w'.cell? ⟨N1, 0, none⟩ = some (.slice pk pkn pkc) ∧ w'.cell? ⟨N1, 1, none⟩ = some (.slice pv pvn pvc) ∧ w'.cell? ⟨N1, 2, none⟩ = some (.int .i64 ps) ∧ w'.cell? ⟨N1, 3, none⟩ = some (.int .i64 pr)) (by kernel_rfl) ?_
    rw [hu0]
    clear hu0
    refine wpAnyM_take (i := 0) (v := ?_) (by simp only [List.getElem?_toArray, List.getElem?_cons_succ, List.getElem?_cons_zero]; rfl) (by kernel_rfl) (by kernel_rfl) (by kernel_rfl) (by kernel_rfl) (by exact fun _ _ _ h => h) (Or.inl ⟨by rfl, ?_⟩) (HS.out _ _ H3.out) ?_
    rotate_left
    · (intro w' hSw; (try dsimp only at hSw); go_simp; try with_reducible rfl)
    try simp only [Act.put, List.setIfInBounds_toArray, List.set_cons_zero, List.set_cons_succ]
    refine wpAnyM_take (i := 1) (v := ?_) (by simp only [List.getElem?_toArray, List.getElem?_cons_succ, List.getElem?_cons_zero]; rfl) (by kernel_rfl) (by kernel_rfl) (by kernel_rfl) (by kernel_rfl) (by exact fun _ _ _ h => h) (Or.inl ⟨by rfl, ?_⟩) (HS.out _ _ H3.out) ?_
    rotate_left
    · (intro w' hSw; (try dsimp only at hSw); go_simp; try with_reducible rfl)
    try simp only [Act.put, List.setIfInBounds_toArray, List.set_cons_zero, List.set_cons_succ]
    refine wpAnyM_take (i := 2) (v := ?_) (by simp only [List.getElem?_toArray, List.getElem?_cons_succ, List.getElem?_cons_zero]; rfl) (by kernel_rfl) (by kernel_rfl) (by kernel_rfl) (by kernel_rfl) (by exact fun _ _ _ h => h) (Or.inl ⟨by rfl, ?_⟩) (HS.out _ _ H3.out) ?_
    rotate_left
    · (intro w' hSw; (try dsimp only at hSw); go_simp; try with_reducible rfl)
    try simp only [Act.put, List.setIfInBounds_toArray, List.set_cons_zero, List.set_cons_succ]
    refine wpAnyM_one (i := 3) (by kernel_rfl) (by simp only [List.getElem?_toArray, List.getElem?_cons_succ, List.getElem?_cons_zero]; rfl) ?_
    go_wp2_with (go_at_call 69; refine (long_any pk pkn pkc pv pvn pvc ps pr u0).mono ?_; rintro e u1 ⟨rfl, hB⟩; (have H4 := Aside0.mk (H3.out.step hB)); clear hB)
    refine ⟨HS.out _ _ H4.out, ?_⟩
    try simp only [Act.put, List.setIfInBounds_toArray, List.set_cons_zero, List.set_cons_succ]
    refine wpAnyM_one (i := 4) (by kernel_rfl) (by simp only [List.getElem?_toArray, List.getElem?_cons_succ, List.getElem?_cons_zero]; rfl) ?_
    go_wp2_with (go_at_call 43; refine (put_any base gw g2 c _ (longI pvn ps pr) 2 u1 HLG.out H4.out.wr).mono ?_; rintro e u2 ⟨rfl, hW, hO, _⟩; (have H5 := Aside0.mk (H4.out.writer hO hW)); clear hW hO)
    refine ⟨HS.out _ _ H5.out, ?_⟩
    try simp only [Act.put, List.setIfInBounds_toArray, List.set_cons_zero, List.set_cons_succ]
    refine wpAnyM_done (by kernel_rfl) ?_ _
    obtain ⟨y0, y1, z0, z1, z2, z3⟩ := HS.out _ _ H5.out
    obtain ⟨s3, hs3⟩ : ∃ x, putS (putS (putS s (pkn : Int) 1) 1 1) (longI pvn ps pr) 2 = x := ⟨_, rfl⟩
    rw [hs3] at H5
    have HS3 := Aside0.mk hs3
    clear hs3
    go_upto_region 9 with (first
      | (go_at_call 44; refine (wbytes_any base gw g2 c (bytesS s3 qk) pv pvn pvc qv w6 H6.out.wr (H6.out.bs HX.out.2.2.1 HX.out.2.2.2.one HX.out.2.2.2.two) HX.out.2.2.2.one HX.out.2.2.2.two).mono ?_; rintro e w7 ⟨rfl, hW, hO, _⟩; (have H7 := Aside0.mk (H6.out.writer hO hW)); clear hW hO)
      | (go_at_call 44; refine (wbytes_any base gw g2 c s3 pk pkn pkc qk u2 H5.out.wr (H5.out.bs HX.out.1 HX.out.2.1.one HX.out.2.1.two) HX.out.2.1.one HX.out.2.1.two).mono ?_; rintro e w6 ⟨rfl, hW, hO, _⟩; (have H6 := Aside0.mk (H5.out.writer hO hW)); clear hW hO; clear y0 y1 z0 z1 z2 z3; (obtain ⟨y0, y1, z0, z1, z2, z3⟩ := HS.out _ _ H6.out))
      | fail)
    clear y0 y1 z0 z1 z2 z3
    go_upto_region 10 with fail
    have h8 := H7.out.step (below_drew (Below.refl _ _))
    obtain ⟨v0, hv0⟩ : ∃ X, w7.drew = X := ⟨_, rfl⟩
    rw [hv0] at h8
    have H8 := Aside0.mk h8
    clear h8
    refine wp_region_M (fun j => decide (j < 8)) (fun w' => w'.cell? ⟨N, 0, none⟩ = some (.pointer (some ⟨gw, 0, none⟩)) ∧ w'.cell? ⟨N, 1, none⟩ = some (.int .i64 g) ∧ w'.cell? ⟨N1, 0, none⟩ = some (.slice pk pkn pkc) ∧ w'.cell? ⟨N1, 1, none⟩ = some (.slice pv pvn pvc) ∧ w'.cell? ⟨N1, 2, none⟩ = some (.int .i64 ps) ∧ w'.cell? ⟨N1, 3, none⟩ = some (.int .i64 pr)) (by kernel_rfl) ?_
    rw [hv0]
    clear hv0
    refine wpAnyM_take (i := 0) (v := ?_) (by simp only [List.getElem?_toArray, List.getElem?_cons_succ, List.getElem?_cons_zero]; rfl) (by kernel_rfl) (by kernel_rfl) (by kernel_rfl) (by kernel_rfl) (by exact fun _ _ _ h => h) (Or.inl ⟨by rfl, ?_⟩) (HS.out _ _ H8.out) ?_
    rotate_left
    · (intro w' hSw; (try dsimp only at hSw); go_simp; try with_reducible rfl)
    try simp only [Act.put, List.setIfInBounds_toArray, List.set_cons_zero, List.set_cons_succ]
    refine wpAnyM_take (i := 1) (v := ?_) (by simp only [List.getElem?_toArray, List.getElem?_cons_succ, List.getElem?_cons_zero]; rfl) (by kernel_rfl) (by kernel_rfl) (by kernel_rfl) (by kernel_rfl) (by exact fun _ _ _ h => h) (Or.inl ⟨by rfl, ?_⟩) (HS.out _ _ H8.out) ?_
    rotate_left
    · (intro w' hSw; (try dsimp only at hSw); go_simp; try with_reducible rfl)
    try simp only [Act.put, List.setIfInBounds_toArray, List.set_cons_zero, List.set_cons_succ]
    refine wpAnyM_take (i := 2) (v := ?_) (by simp only [List.getElem?_toArray, List.getElem?_cons_succ, List.getElem?_cons_zero]; rfl) (by kernel_rfl) (by kernel_rfl) (by kernel_rfl) (by kernel_rfl) (by exact fun _ _ _ h => h) (Or.inl ⟨by rfl, ?_⟩) (HS.out _ _ H8.out) ?_
    rotate_left
    · (intro w' hSw; (try dsimp only at hSw); go_simp; try with_reducible rfl)
    try simp only [Act.put, List.setIfInBounds_toArray, List.set_cons_zero, List.set_cons_succ]
    refine wpAnyM_take (i := 3) (v := ?_) (by simp only [List.getElem?_toArray, List.getElem?_cons_succ, List.getElem?_cons_zero]; rfl) (by kernel_rfl) (by kernel_rfl) (by kernel_rfl) (by kernel_rfl) (by exact fun _ _ _ h => h) (Or.inl ⟨by rfl, ?_⟩) (HS.out _ _ H8.out) ?_
    rotate_left
    · (intro w' hSw; (try dsimp only at hSw); go_simp; try with_reducible rfl)
    try simp only [Act.put, List.setIfInBounds_toArray, List.set_cons_zero, List.set_cons_succ]
    refine wpAnyM_take (i := 4) (v := ?_) (by simp only [List.getElem?_toArray, List.getElem?_cons_succ, List.getElem?_cons_zero]; rfl) (by kernel_rfl) (by kernel_rfl) (by kernel_rfl) (by kernel_rfl) (by exact fun _ _ _ h => h) (Or.inl ⟨by rfl, ?_⟩) (HS.out _ _ H8.out) ?_
    rotate_left
    · (intro w' hSw; (try dsimp only at hSw); go_simp; try with_reducible rfl)
    try simp only [Act.put, List.setIfInBounds_toArray, List.set_cons_zero, List.set_cons_succ]
    refine wpAnyM_take (i := 5) (v := ?_) (by simp only [List.getElem?_toArray, List.getElem?_cons_succ, List.getElem?_cons_zero]; rfl) (by kernel_rfl) (by kernel_rfl) (by kernel_rfl) (by kernel_rfl) (by exact fun _ _ _ h => h) (Or.inl ⟨by rfl, ?_⟩) (HS.out _ _ H8.out) ?_
    rotate_left
    · (intro w' hSw; (try dsimp only at hSw); go_simp; try with_reducible rfl)
    try simp only [Act.put, List.setIfInBounds_toArray, List.set_cons_zero, List.set_cons_succ]
    refine wpAnyM_one (i := 6) (by kernel_rfl) (by simp only [List.getElem?_toArray, List.getElem?_cons_succ, List.getElem?_cons_zero]; rfl) ?_
    go_wp2_with (go_at_call 42; refine (idWidth_any g v0).mono ?_; rintro e v1 ⟨rfl, hB⟩; (have H9 := Aside0.mk (H8.out.step hB)); clear hB)
    refine ⟨HS.out _ _ H9.out, ?_⟩
    try simp only [Act.put, List.setIfInBounds_toArray, List.set_cons_zero, List.set_cons_succ]
    refine wpAnyM_one (i := 7) (by kernel_rfl) (by simp only [List.getElem?_toArray, List.getElem?_cons_succ, List.getElem?_cons_zero]; rfl) ?_
    go_wp2_with (go_at_call 43; refine (put_any base gw g2 c _ pr (iwI g) v1 HRB.out H9.out.wr).mono ?_; rintro e v2 ⟨rfl, hW, hO, _⟩; (have H10 := Aside0.mk (H9.out.writer hO hW)); clear hW hO)
    refine ⟨HS.out _ _ H10.out, ?_⟩
    try simp only [Act.put, List.setIfInBounds_toArray, List.set_cons_zero, List.set_cons_succ]
    refine wpAnyM_done (by kernel_rfl) ?_ _
    go_end0
    refine ⟨rfl, ?_, H10.out.only⟩
    have h := H10.out.wr
    rw [← HS3.out] at h
    unfold itemS
    simp only [if_neg HR0.out, HKL.out.1, HKL.out.2]
    exact h
end Go.Proofs.YtbjfklgmbeaaoaaGreat
