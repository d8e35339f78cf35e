/- The walk of MetaZeros. -/
import Derived.Test.YtenibcbodjkglaaL09e
set_option linter.unusedVariables false
set_option linter.unusedSimpArgs false
namespace Go.Proofs.Ytenibcbodjkglaa
open Go.RowKit

/-- Which sectors are kept. -/
def kp (k0 k1 k2 k3 : Bool) : Nat → Bool
  | 0 => k0
  | 1 => k1
  | 2 => k2
  | _ => k3
/-- Zeros, over which the first so many sectors are written, if they are kept. -/
def tz (E : List UInt8) (kb : Nat → Bool) : Nat → List UInt8
  | 0 => List.replicate 256 0
  | j + 1 => if kb j = true then putL (tz E kb j) ((E.drop (64 * j)).take 64) (64 * j) else tz E kb j
theorem seg_len {E : List UInt8} (h : E.length = 256) {j : Nat} (hj : j < 4) : ((E.drop (64 * j)).take 64).length = 64 := by
  rw [List.length_take, List.length_drop]
  omega
theorem tz_len {E : List UInt8} (h : E.length = 256) (kb : Nat → Bool) (j : Nat) (hj : j ≤ 4) : (tz E kb j).length = 256 := by
  induction j with
  | zero => exact List.length_replicate
  | succ j ih =>
    unfold tz
    split
    · rw [putL_length _ _ _ (by rw [ih (by omega), seg_len h (by omega)]; omega)]
      exact ih (by omega)
    · exact ih (by omega)
theorem putL_get (xs ys : List UInt8) (a i : Nat) (h : a + ys.length ≤ xs.length) : (putL xs ys a).getD i 0 = if a ≤ i ∧ i < a + ys.length then ys.getD (i - a) 0 else xs.getD i 0 := by
  unfold putL
  have e1 : (List.take a xs).length = a := by rw [List.length_take]; omega
  simp only [List.getD_eq_getElem?_getD]
  by_cases h1 : i < a
  · rw [if_neg (by omega), List.getElem?_append_left (by omega), List.getElem?_take_of_lt h1]
  · rw [List.getElem?_append_right (by omega), e1]
    by_cases h2 : i < a + ys.length
    · rw [if_pos ⟨by omega, h2⟩, List.getElem?_append_left (by omega)]
    · rw [if_neg (by omega), List.getElem?_append_right (by omega), List.getElem?_drop]
      congr 2
      omega
theorem tz_get {E : List UInt8} (h : E.length = 256) (kb : Nat → Bool) (j : Nat) (hj : j ≤ 4) (i : Nat) (hi : i < 256) : (tz E kb j).getD i 0 = if i / 64 < j ∧ kb (i / 64) = true then E.getD i 0 else 0 := by
  induction j with
  | zero =>
    rw [if_neg (by omega)]
    show (List.replicate 256 (0 : UInt8)).getD i 0 = 0
    rw [List.getD_eq_getElem?_getD, List.getElem?_replicate_of_lt hi]
    rfl
  | succ j ih =>
    have ih := ih (by omega)
    have hl := seg_len h (show j < 4 by omega)
    unfold tz
    by_cases hk : kb j = true
    · rw [if_pos hk, putL_get _ _ _ _ (by rw [tz_len h kb j (by omega), hl]; omega), hl]
      by_cases hin : 64 * j ≤ i ∧ i < 64 * j + 64
      · have hd : i / 64 = j := by omega
        rw [if_pos hin, hd, if_pos ⟨by omega, hk⟩]
        simp only [List.getD_eq_getElem?_getD]
        rw [List.getElem?_take_of_lt (by omega), List.getElem?_drop]
        congr 2
        omega
      · rw [if_neg hin, ih]
        have e : (i / 64 < j ∧ kb (i / 64) = true) ↔ (i / 64 < j + 1 ∧ kb (i / 64) = true) := ⟨fun k => ⟨by omega, k.2⟩, fun k => ⟨by omega, k.2⟩⟩
        simp only [e]
    · rw [if_neg hk, ih]
      have e : (i / 64 < j ∧ kb (i / 64) = true) ↔ (i / 64 < j + 1 ∧ kb (i / 64) = true) := ⟨fun k => ⟨by omega, k.2⟩, fun k => ⟨by
        rcases Nat.lt_or_ge (i / 64) j with q | q
        · exact q
        · rw [show i / 64 = j by omega] at k
          exact absurd k.2 hk, k.2⟩⟩
      simp only [e]
theorem tz_all {E : List UInt8} (h : E.length = 256) (hz : (E.drop 64).take 128 = List.replicate 128 0) {kb : Nat → Bool} (h0 : kb 0 = true) (h3 : kb 3 = true) : tz E kb 4 = E := by
  have hl := tz_len h kb 4 (Nat.le_refl _)
  apply List.ext_getElem?
  intro i
  rcases Nat.lt_or_ge i 256 with hi | hi
  · have hg := tz_get h kb 4 (Nat.le_refl _) i hi
    have hE : (tz E kb 4).getD i 0 = E.getD i 0 := by
      rw [hg]
      by_cases hk : kb (i / 64) = true
      · rw [if_pos ⟨by omega, hk⟩]
      · rw [if_neg (fun q => hk q.2)]
        have hm : 64 ≤ i ∧ i < 192 := by
          rcases (show i / 64 = 0 ∨ i / 64 = 1 ∨ i / 64 = 2 ∨ i / 64 = 3 by omega) with q | q | q | q
          · rw [q] at hk; exact absurd h0 hk
          · omega
          · omega
          · rw [q] at hk; exact absurd h3 hk
        have e : ((E.drop 64).take 128).getD (i - 64) 0 = 0 := by
          rw [hz, List.getD_eq_getElem?_getD, List.getElem?_replicate_of_lt (by omega)]
          rfl
        rw [List.getD_eq_getElem?_getD, List.getElem?_take_of_lt (by omega), List.getElem?_drop, show 64 + (i - 64) = i by omega] at e
        rw [List.getD_eq_getElem?_getD]
        exact e.symm
    rw [List.getD_eq_getElem?_getD, List.getD_eq_getElem?_getD, List.getElem?_eq_getElem (by omega), List.getElem?_eq_getElem (by omega)] at hE
    rw [List.getElem?_eq_getElem (by omega), List.getElem?_eq_getElem (by omega)]
    exact congrArg some hE
  · rw [List.getElem?_eq_none (by omega), List.getElem?_eq_none (by omega)]
theorem tz_none {E : List UInt8} (h : E.length = 256) {kb : Nat → Bool} (hk : kb 0 = false ∨ kb 3 = false) : refE (tz E kb 4) = 90 := by
  unfold refE
  refine if_neg (fun k => ?_)
  rcases hk with hk | hk
  · have hg := tz_get h kb 4 (Nat.le_refl _) 0 (by omega)
    rw [if_neg (fun q => by have := q.2; rw [show 0 / 64 = 0 from rfl, hk] at this; exact Bool.noConfusion this)] at hg
    have e : ((tz E kb 4).take 4).getD 0 0 = (tz E kb 4).getD 0 0 := by
      simp only [List.getD_eq_getElem?_getD]
      rw [List.getElem?_take_of_lt (by omega)]
    rw [k.2.1, hg] at e
    exact absurd e (by decide)
  · have hg := tz_get h kb 4 (Nat.le_refl _) 248 (by omega)
    rw [if_neg (fun q => by have := q.2; rw [show 248 / 64 = 3 from rfl, hk] at this; exact Bool.noConfusion this)] at hg
    have e : (((tz E kb 4).take 252).drop 248).getD 0 0 = (tz E kb 4).getD 248 0 := by
      simp only [List.getD_eq_getElem?_getD]
      rw [List.getElem?_drop, List.getElem?_take_of_lt (by omega)]
    rw [k.2.2, hg] at e
    exact absurd e (by decide)
/-- What stands: boxes, and slices of bytes. -/
structure H9 (w : World) (L : List (Nat × Array Value × TypeId)) (B : List (Option Addr × Nat × Nat × List UInt8)) (W : World) : Prop where
  bel : Below w.heap.size w W
  rows : ∀ p, p ∈ L → W.heap[p.1]? = some (.cells p.2.1 p.2.2)
  bs : ∀ q, q ∈ B → Bs W q.1 q.2.1 q.2.2.1 q.2.2.2
theorem H9.step {w W W1 : World} {L : List (Nat × Array Value × TypeId)} {B : List (Option Addr × Nat × Nat × List UInt8)} (h : H9 w L B W) (hB : Below W.heap.size W W1) : H9 w L B W1 :=
  ⟨below_then h.bel h.bel.size hB, fun p hp => (hB.block _ (Array.getElem?_eq_some_iff.1 (h.rows p hp)).1).trans (h.rows p hp), fun q hq => (h.bs q hq).below hB⟩
theorem H9.add {w W : World} {L : List (Nat × Array Value × TypeId)} {B : List (Option Addr × Nat × Nat × List UInt8)} (h : H9 w L B W) (u : Array Value) (T : TypeId) : H9 w ((W.heap.size, u, T) :: L) B (W.alloc (.cells u T)) := by
  have k := h.step ((Below.refl _ W).alloc (Nat.le_refl _) (.cells u T))
  refine ⟨k.bel, fun p hp => ?_, k.bs⟩
  rcases List.mem_cons.1 hp with rfl | hp
  · exact heap_alloc_new W _
  · exact k.rows p hp
theorem H9.byt {w W : World} {L : List (Nat × Array Value × TypeId)} {B : List (Option Addr × Nat × Nat × List UInt8)} (h : H9 w L B W) {A : Option Addr} {n c : Nat} {xs : List UInt8} (hb : Bs W A n c xs) : H9 w L ((A, n, c, xs) :: B) W :=
  ⟨h.bel, h.rows, fun q hq => by
    rcases List.mem_cons.1 hq with rfl | hq
    · exact hb
    · exact h.bs q hq⟩
theorem H9.start (w : World) : H9 w [] [] w := ⟨Below.refl _ _, fun _ h => absurd h List.not_mem_nil, fun _ h => absurd h List.not_mem_nil⟩

theorem H9.only {w W W1 : World} {L : List (Nat × Array Value × TypeId)} {B : List (Option Addr × Nat × Nat × List UInt8)} {g : Nat} (h : H9 w L B W) (ho : OnlyB g W W1) (hg : w.heap.size ≤ g) (hL : ∀ p, p ∈ L → p.1 ≠ g)
    (hB : ∀ q, q ∈ B → ∀ ad, q.1 = some ad → 0 < q.2.1 → ad.block ≠ g) : H9 w L B W1 :=
  ⟨ho.below h.bel hg (Nat.le_refl _), fun p hp => (ho.block _ (Array.getElem?_eq_some_iff.1 (h.rows p hp)).1 (hL p hp)).trans (h.rows p hp), fun q hq => (h.bs q hq).only ho (hB q hq)⟩
theorem mdec_z (A : Option Addr) (n c : Nat) (xs : List UInt8) (w : World) (hb : Bs w A n c xs) (hE : refE xs = 90) :
    Calls Try.prog 17 #[.slice A n c] w fun e w' => Below w.heap.size w w' ∧ e = .returned (.tuple #[.agg #[.int .i64 0, .int .i64 0, .int .i64 0, .int .i64 0, .int .i64 0, .int .i64 0, .int .i64 0, .slice none 0 0], .int .i64 90]) := by
  refine (mdecode_any A n c xs w hb).mono ?_
  rintro e w' ⟨hB, ⟨_, rfl⟩ | ⟨k, _⟩⟩
  · exact ⟨hB, by rw [dec_ref, hE]⟩
  · rw [dec_ref, hE] at k
    exact absurd k (by decide)
/-- The zeros, over which some sectors are written, and what else stands. -/
structure Z9 (w : World) (L : List (Nat × Array Value × TypeId)) (B : List (Option Addr × Nat × Nat × List UInt8)) (g : Nat) (T : List UInt8) (W : World) : Prop where
  h : H9 w L B W
  own : Ow W (w.heap.size + 2) (some ⟨g, 0, none⟩) 256 256 T
theorem Z9.step {w W W1 : World} {L : List (Nat × Array Value × TypeId)} {B : List (Option Addr × Nat × Nat × List UInt8)} {g : Nat} {T : List UInt8} (h : Z9 w L B g T W) (hB : Below W.heap.size W W1) : Z9 w L B g T W1 := ⟨h.h.step hB, h.own.below hB⟩
theorem z_cut (g c a : Nat) (h : a < c) : cutA (some ⟨g, 0, none⟩) c a = some ⟨g, a, none⟩ := by
  unfold cutA
  rw [if_neg (by omega)]
  simp [add_plain]
theorem z_sl (W : World) (g c a : Nat) (h : a + 64 ≤ 256) (hc : 256 ≤ c) : (Instr.slice 22 (.slice (some ⟨g, 0, none⟩) 256 c) (some (.int .i64 (a : Int))) (some (.int .i64 ((a + 64 : Nat) : Int))) none).run Try.prog W = .ok (.slice (some ⟨g, a, none⟩) 64 (c - a)) W := by
  rw [sl8_lh W (some ⟨g, 0, none⟩) 256 c .i64 .i64 (a : Int) ((a + 64 : Nat) : Int) (by omega) (by omega) (by omega), Int.toNat_natCast, Int.toNat_natCast, z_cut g c a (by omega), Nat.add_sub_cancel_left]
theorem z_src {W : World} {g c a : Nat} {E : List UInt8} (hb : Bs W (some ⟨g, 0, none⟩) 256 c E) (h : a + 64 ≤ 256) : ∀ i v, (u8v ((E.drop a).take 64))[i]? = some v → W.cell? ((⟨g, a, none⟩ : Addr).add i) = some v := by
  have hc := hb.le
  have hs := (hb.drop a (by omega)).take 64 (by omega)
  rw [z_cut g c a (by omega)] at hs
  intro i v hv
  have hi : i < 64 := by
    rcases Nat.lt_or_ge i 64 with q | q
    · exact q
    · rw [List.getElem?_eq_none (by rw [u8v_length, hs.len]; exact q)] at hv
      cases hv
  obtain ⟨ad, e, hx⟩ := hs.cells (by omega)
  obtain rfl := Option.some.inj e
  rw [u8v_get _ i (by rw [hs.len]; exact hi)] at hv
  injection hv with hv
  rw [← hv]
  exact hx i hi
def zL (ge ph tg tx rt pg li : Int) (A : Option Addr) (n c : Nat) (k0 k1 k2 k3 : Bool) (N : Nat) : List (Nat × Array Value × TypeId) := [(N + 1, #[.bool k0, .bool k1, .bool k2, .bool k3], 47), (N, #[.int .i64 ge, .int .i64 ph, .int .i64 tg, .int .i64 tx, .int .i64 rt, .int .i64 pg, .int .i64 li, .slice A n c], 24)]
theorem Z9.hit {w W : World} {ge ph tg tx rt pg li : Int} {A : Option Addr} {n c : Nat} {k0 k1 k2 k3 : Bool} {gb c1 g : Nat} {E T T' : List UInt8} {cs : Array Value} (h : Z9 w (zL ge ph tg tx rt pg li A n c k0 k1 k2 k3 w.heap.size) [(some ⟨gb, 0, none⟩, 256, c1, E)] g T W) (hg : gb ≠ g)
    (ho : Ow (W.setRow g cs) (w.heap.size + 2) (some ⟨g, 0, none⟩) 256 256 T') : Z9 w (zL ge ph tg tx rt pg li A n c k0 k1 k2 k3 w.heap.size) [(some ⟨gb, 0, none⟩, 256, c1, E)] g T' (W.setRow g cs) := by
  have hgg : w.heap.size + 2 ≤ g := by
    obtain ⟨g', e, h1, _⟩ := h.own.head (by omega)
    injection e with e
    injection e with e
    omega
  refine ⟨h.h.only ⟨rfl, rfl, rfl, by simp, fun i _ hi => setRow_other _ _ _ _ hi⟩ (by omega) (fun p hp => ?_) (fun q hq ad e _ => ?_), ho⟩
  · rcases List.mem_cons.1 hp with rfl | hp
    · show w.heap.size + 1 ≠ g
      omega
    · rcases List.mem_cons.1 hp with rfl | hp
      · show w.heap.size ≠ g
        omega
      · exact absurd hp List.not_mem_nil
  · rcases List.mem_cons.1 hq with rfl | hq
    · have e' := Option.some.inj e
      rw [← e']
      exact hg
    · exact absurd hq List.not_mem_nil
set_option maxHeartbeats 20000000 in
set_option maxRecDepth 100000 in
theorem metaZeros_walk (ge ph tg tx rt pg li : Int) (A : Option Addr) (n c : Nat) (xs : List UInt8) (k0 k1 k2 k3 : Bool) (w : World) (hx : Bs w A n c xs) :
    Calls Try.prog 7 #[.agg #[.int .i64 ge, .int .i64 ph, .int .i64 tg, .int .i64 tx, .int .i64 rt, .int .i64 pg, .int .i64 li, .slice A n c], .agg #[.bool k0, .bool k1, .bool k2, .bool k3]] w fun e w' => e = .returned (.bool true) ∧ Below w.heap.size w w' := by
  obtain rfl := hx.len
  have HH := Aside0.mk (((H9.start w).add #[.int .i64 ge, .int .i64 ph, .int .i64 tg, .int .i64 tx, .int .i64 rt, .int .i64 pg, .int .i64 li, .slice A xs.length c] 24).add #[.bool k0, .bool k1, .bool k2, .bool k3] 47)
  simp only [World.size_alloc] at HH
  have HX : ∀ {W : World} {L B}, H9 w L B W → Bs W A xs.length c xs := fun h => hx.below h.bel
  go_enter Try.func7, Try.ntmps7
  go_wp2_with fail
  obtain ⟨W0, hW0⟩ : ∃ X, (w.alloc (.cells #[.int .i64 ge, .int .i64 ph, .int .i64 tg, .int .i64 tx, .int .i64 rt, .int .i64 pg, .int .i64 li, .slice A xs.length c] 24)).alloc (.cells #[.bool k0, .bool k1, .bool k2, .bool k3] 47) = X := ⟨_, rfl⟩
  rw [hW0] at HH ⊢
  clear hW0
  cases hR : mrightB ge ph tg tx rt pg li xs.length with
  | false =>
    refine (menc_no ge ph tg tx rt pg li A xs.length c xs _ (HX HH.out) hR).mono ?_
    rintro e w1 ⟨hB, rfl⟩
    replace HH := Aside0.mk (HH.out.step hB)
    clear hB
    go_wp2_with (go_at_call 9; (with_reducible refine (alive09_any _).mono ?_); rintro e wa ⟨rfl, hB⟩; (replace HH := Aside0.mk (HH.out.step hB)); clear hB)
    go_ret
    exact ⟨rfl, HH.out.bel⟩
  | true =>
    refine (menc_ok ge ph tg tx rt pg li A xs.length c xs _ (HX HH.out) hR).mono ?_
    rintro e w1 ⟨hB, A1, c1, rfl, hO⟩
    obtain ⟨Ea, hEa⟩ : ∃ E, encR ge ph tg tx rt pg li xs = E := ⟨_, rfl⟩
    rw [hEa] at hO
    obtain ⟨gb, rfl, _, hgb, _⟩ := hO.head (by omega)
    have hc1 := hO.bs.le
    have hc2 := hO.bs.cap
    replace HH := Aside0.mk ((HH.out.step hB).byt hO.bs)
    have HG := Aside0.mk hgb
    have HE := Aside0.mk hEa
    have hlE := Aside0.mk (show Ea.length = 256 from by rw [← hEa]; exact (encR_read hR).1)
    have hzE := Aside0.mk (show (Ea.drop 64).take 128 = List.replicate 128 0 from by rw [← hEa]; exact encR_noughts hR)
    replace hR := Aside0.mk hR
    clear hB hO hgb hEa
    have hmk : ∀ W : World, (Instr.makeSlice 22 (.int .i64 256) (.int .i64 256)).run Try.prog W = .ok (.slice (some ⟨W.heap.size, 0, none⟩) 256 256) (W.alloc (.cells (madeCells #[.int .u8 0] 256) 5)) := mk8 256 (by omega)
    have hsz : w.heap.size + 2 ≤ w1.heap.size := by have := (Array.getElem?_eq_some_iff.1 (HH.out.rows (w.heap.size + 1, #[.bool k0, .bool k1, .bool k2, .bool k3], 47) (by simp))).1; omega
    have HZ := Aside0.mk (show Z9 w (zL ge ph tg tx rt pg li A xs.length c k0 k1 k2 k3 w.heap.size) [(some ⟨gb, 0, none⟩, 256, c1, Ea)] w1.heap.size (tz Ea (kp k0 k1 k2 k3) 0) (w1.alloc (.cells (madeCells #[.int .u8 0] 256) 5)) from ⟨HH.out.step ((Below.refl _ w1).alloc (Nat.le_refl _) _), Ow.made w1 (w.heap.size + 2) w1.heap.size rfl hsz 256 (by omega)⟩)
    have hgn := Aside0.mk (show gb ≠ w1.heap.size from Nat.ne_of_lt HG.out)
    clear hsz HG
    go_upto_region 5 with fail
    obtain ⟨W1, hW1⟩ : ∃ X, w1.alloc (.cells (madeCells #[.int .u8 0] 256) 5) = X := ⟨_, rfl⟩
    obtain ⟨g, hg⟩ : ∃ k, w1.heap.size = k := ⟨_, rfl⟩
    rw [hW1, hg] at HZ
    rw [hg] at hgn
    rw [hW1, hg]
    clear hW1 hg hmk HH
    obtain ⟨y0, y1, y2, y3⟩ := row4_cells' (HZ.out.h.rows (w.heap.size + 1, #[.bool k0, .bool k1, .bool k2, .bool k3], 47) (by simp [zL]))
    go_wp2_with fail
    clear y0 y1 y2 y3
    go_loopg [32] 4 (fun m v wr => ∃ j : Nat, Aside (m + j = 4) ∧ v = .int .i64 (j : Int) ∧ Aside0 (Z9 w (zL ge ph tg tx rt pg li A xs.length c k0 k1 k2 k3 w.heap.size) [(some ⟨gb, 0, none⟩, 256, c1, Ea)] g (tz Ea (kp k0 k1 k2 k3) j) wr))
    case atStart => exact ⟨0, rfl, rfl, HZ⟩
    case round =>
      obtain ⟨j, hk, rfl, hI⟩ := hrel
      have hjb : j ≤ 4 := by have := hk.out; omega
      clear HZ
      rcases (show j = 0 ∨ j = 1 ∨ j = 2 ∨ j = 3 ∨ j = 4 by omega) with rfl | rfl | rfl | rfl | rfl
      · by_cases hk0 : k0 = true
        · have ix : ∀ W : World, (Instr.index 47 (.agg #[.bool k0, .bool k1, .bool k2, .bool k3]) (.int .i64 0)).run Try.prog W = .ok (.bool true) W := fun W => (show _ = .ok (.bool k0) W by kernel_rfl).trans (by rw [hk0])
          replace hk0 := Aside0.mk hk0
          have t1 : ∀ W : World, (Instr.slice 22 (.slice (some ⟨g, 0, none⟩) 256 256) (some (.int .i64 0)) (some (.int .i64 64)) none).run Try.prog W = .ok (.slice (some ⟨g, 0, none⟩) 64 256) W := fun W => z_sl W g 256 0 (by omega) (by omega)
          have t2 : ∀ W : World, (Instr.slice 22 (.slice (some ⟨gb, 0, none⟩) 256 c1) (some (.int .i64 0)) (some (.int .i64 64)) none).run Try.prog W = .ok (.slice (some ⟨gb, 0, none⟩) 64 (c1 - 0)) W := fun W => z_sl W gb c1 0 (by omega) hc1
          have hs64 : ((Ea.drop 0).take 64).length = 64 := seg_len hlE.out (j := 0) (by omega)
          go_upto_region 9 with fail
          have w0 : IntKind.i64.wrap 0 = 0 := by decide
          have w1 : IntKind.i64.wrap 1 = 1 := by decide
          have w2 : IntKind.i64.wrap 64 = 64 := by decide
          go_still_tail 14, (by kernel_rfl)
          change wpList _ _ _ _ _ wr.drew
          obtain ⟨Wd, hWd⟩ : ∃ Wd, wr.drew = Wd := ⟨_, rfl⟩
          replace hI := Aside0.mk (hI.out.step (below_drew (Below.refl _ _)))
          rw [hWd] at hI ⊢
          clear hWd
          obtain ⟨cur, hcur, hfit, hOw⟩ := hI.out.own.splice (ys := (Ea.drop 0).take 64) (a := 0) (by rw [hs64]; omega)
          have HN := Aside0.mk (hI.out.hit hgn.out hOw)
          have HC := Aside0.mk (And.intro hcur (And.intro hfit hs64))
          have HS := Aside0.mk (z_src (a := 0) (hI.out.h.bs (some ⟨gb, 0, none⟩, 256, c1, Ea) (by simp)) (by omega))
          clear hcur hfit hOw hs64
          go_wp2_with (with_reducible refine wpList_copy_own rfl _ _ _ _ rfl 5 Try.underlying22 size1 g 0 64 256 ⟨gb, 0, none⟩ 64 (c1 - 0) rfl rfl cur _ HC.out.1 (u8v ((Ea.drop 0).take 64)) (by rw [u8v_length, HC.out.2.2]; exact (Nat.min_self 64).symm) HS.out (by rw [u8v_length]; exact HC.out.2.1) (u8v_one _) ?_)
          go_roundg 3
          case measure => have := hk.out; omega
          case rel => exact ⟨1, rfl, by go_num, ⟨by have := HN.out; rw [show tz Ea (kp k0 k1 k2 k3) 1 = putL (tz Ea (kp k0 k1 k2 k3) 0) ((Ea.drop 0).take 64) 0 from if_pos hk0.out]; first | exact this | simpa using this⟩⟩
        · replace hk0 : k0 = false := Bool.eq_false_iff.2 hk0
          have ix : ∀ W : World, (Instr.index 47 (.agg #[.bool k0, .bool k1, .bool k2, .bool k3]) (.int .i64 0)).run Try.prog W = .ok (.bool false) W := fun W => (show _ = .ok (.bool k0) W by kernel_rfl).trans (by rw [hk0])
          replace hk0 := Aside0.mk (show ¬ k0 = true from Bool.eq_false_iff.1 hk0)
          go_wp2_with fail
          go_roundg 3
          case measure => have := hk.out; omega
          case rel => exact ⟨1, rfl, by go_num, ⟨by have := hI.out; rwa [show tz Ea (kp k0 k1 k2 k3) 1 = tz Ea (kp k0 k1 k2 k3) 0 from if_neg hk0.out]⟩⟩
      · by_cases hk1 : k1 = true
        · have ix : ∀ W : World, (Instr.index 47 (.agg #[.bool k0, .bool k1, .bool k2, .bool k3]) (.int .i64 1)).run Try.prog W = .ok (.bool true) W := fun W => (show _ = .ok (.bool k1) W by kernel_rfl).trans (by rw [hk1])
          replace hk1 := Aside0.mk hk1
          have t1 : ∀ W : World, (Instr.slice 22 (.slice (some ⟨g, 0, none⟩) 256 256) (some (.int .i64 64)) (some (.int .i64 128)) none).run Try.prog W = .ok (.slice (some ⟨g, 64, none⟩) 64 192) W := fun W => z_sl W g 256 64 (by omega) (by omega)
          have t2 : ∀ W : World, (Instr.slice 22 (.slice (some ⟨gb, 0, none⟩) 256 c1) (some (.int .i64 64)) (some (.int .i64 128)) none).run Try.prog W = .ok (.slice (some ⟨gb, 64, none⟩) 64 (c1 - 64)) W := fun W => z_sl W gb c1 64 (by omega) hc1
          have hs64 : ((Ea.drop 64).take 64).length = 64 := seg_len hlE.out (j := 1) (by omega)
          go_upto_region 9 with fail
          have w0 : IntKind.i64.wrap 1 = 1 := by decide
          have w1 : IntKind.i64.wrap 2 = 2 := by decide
          have w2 : IntKind.i64.wrap 64 = 64 := by decide
          have w3 : IntKind.i64.wrap 128 = 128 := by decide
          go_still_tail 14, (by kernel_rfl)
          change wpList _ _ _ _ _ wr.drew
          obtain ⟨Wd, hWd⟩ : ∃ Wd, wr.drew = Wd := ⟨_, rfl⟩
          replace hI := Aside0.mk (hI.out.step (below_drew (Below.refl _ _)))
          rw [hWd] at hI ⊢
          clear hWd
          obtain ⟨cur, hcur, hfit, hOw⟩ := hI.out.own.splice (ys := (Ea.drop 64).take 64) (a := 64) (by rw [hs64]; omega)
          have HN := Aside0.mk (hI.out.hit hgn.out hOw)
          have HC := Aside0.mk (And.intro hcur (And.intro hfit hs64))
          have HS := Aside0.mk (z_src (a := 64) (hI.out.h.bs (some ⟨gb, 0, none⟩, 256, c1, Ea) (by simp)) (by omega))
          clear hcur hfit hOw hs64
          go_wp2_with (with_reducible refine wpList_copy_own rfl _ _ _ _ rfl 5 Try.underlying22 size1 g 64 64 192 ⟨gb, 64, none⟩ 64 (c1 - 64) rfl rfl cur _ HC.out.1 (u8v ((Ea.drop 64).take 64)) (by rw [u8v_length, HC.out.2.2]; exact (Nat.min_self 64).symm) HS.out (by rw [u8v_length]; exact HC.out.2.1) (u8v_one _) ?_)
          go_roundg 2
          case measure => have := hk.out; omega
          case rel => exact ⟨2, rfl, by go_num, ⟨by have := HN.out; rw [show tz Ea (kp k0 k1 k2 k3) 2 = putL (tz Ea (kp k0 k1 k2 k3) 1) ((Ea.drop 64).take 64) 64 from if_pos hk1.out]; first | exact this | simpa using this⟩⟩
        · replace hk1 : k1 = false := Bool.eq_false_iff.2 hk1
          have ix : ∀ W : World, (Instr.index 47 (.agg #[.bool k0, .bool k1, .bool k2, .bool k3]) (.int .i64 1)).run Try.prog W = .ok (.bool false) W := fun W => (show _ = .ok (.bool k1) W by kernel_rfl).trans (by rw [hk1])
          replace hk1 := Aside0.mk (show ¬ k1 = true from Bool.eq_false_iff.1 hk1)
          go_wp2_with fail
          go_roundg 2
          case measure => have := hk.out; omega
          case rel => exact ⟨2, rfl, by go_num, ⟨by have := hI.out; rwa [show tz Ea (kp k0 k1 k2 k3) 2 = tz Ea (kp k0 k1 k2 k3) 1 from if_neg hk1.out]⟩⟩
      · by_cases hk2 : k2 = true
        · have ix : ∀ W : World, (Instr.index 47 (.agg #[.bool k0, .bool k1, .bool k2, .bool k3]) (.int .i64 2)).run Try.prog W = .ok (.bool true) W := fun W => (show _ = .ok (.bool k2) W by kernel_rfl).trans (by rw [hk2])
          replace hk2 := Aside0.mk hk2
          have t1 : ∀ W : World, (Instr.slice 22 (.slice (some ⟨g, 0, none⟩) 256 256) (some (.int .i64 128)) (some (.int .i64 192)) none).run Try.prog W = .ok (.slice (some ⟨g, 128, none⟩) 64 128) W := fun W => z_sl W g 256 128 (by omega) (by omega)
          have t2 : ∀ W : World, (Instr.slice 22 (.slice (some ⟨gb, 0, none⟩) 256 c1) (some (.int .i64 128)) (some (.int .i64 192)) none).run Try.prog W = .ok (.slice (some ⟨gb, 128, none⟩) 64 (c1 - 128)) W := fun W => z_sl W gb c1 128 (by omega) hc1
          have hs64 : ((Ea.drop 128).take 64).length = 64 := seg_len hlE.out (j := 2) (by omega)
          go_upto_region 9 with fail
          have w0 : IntKind.i64.wrap 2 = 2 := by decide
          have w1 : IntKind.i64.wrap 3 = 3 := by decide
          have w2 : IntKind.i64.wrap 128 = 128 := by decide
          have w3 : IntKind.i64.wrap 192 = 192 := by decide
          go_still_tail 14, (by kernel_rfl)
          change wpList _ _ _ _ _ wr.drew
          obtain ⟨Wd, hWd⟩ : ∃ Wd, wr.drew = Wd := ⟨_, rfl⟩
          replace hI := Aside0.mk (hI.out.step (below_drew (Below.refl _ _)))
          rw [hWd] at hI ⊢
          clear hWd
          obtain ⟨cur, hcur, hfit, hOw⟩ := hI.out.own.splice (ys := (Ea.drop 128).take 64) (a := 128) (by rw [hs64]; omega)
          have HN := Aside0.mk (hI.out.hit hgn.out hOw)
          have HC := Aside0.mk (And.intro hcur (And.intro hfit hs64))
          have HS := Aside0.mk (z_src (a := 128) (hI.out.h.bs (some ⟨gb, 0, none⟩, 256, c1, Ea) (by simp)) (by omega))
          clear hcur hfit hOw hs64
          go_wp2_with (with_reducible refine wpList_copy_own rfl _ _ _ _ rfl 5 Try.underlying22 size1 g 128 64 128 ⟨gb, 128, none⟩ 64 (c1 - 128) rfl rfl cur _ HC.out.1 (u8v ((Ea.drop 128).take 64)) (by rw [u8v_length, HC.out.2.2]; exact (Nat.min_self 64).symm) HS.out (by rw [u8v_length]; exact HC.out.2.1) (u8v_one _) ?_)
          go_roundg 1
          case measure => have := hk.out; omega
          case rel => exact ⟨3, rfl, by go_num, ⟨by have := HN.out; rw [show tz Ea (kp k0 k1 k2 k3) 3 = putL (tz Ea (kp k0 k1 k2 k3) 2) ((Ea.drop 128).take 64) 128 from if_pos hk2.out]; first | exact this | simpa using this⟩⟩
        · replace hk2 : k2 = false := Bool.eq_false_iff.2 hk2
          have ix : ∀ W : World, (Instr.index 47 (.agg #[.bool k0, .bool k1, .bool k2, .bool k3]) (.int .i64 2)).run Try.prog W = .ok (.bool false) W := fun W => (show _ = .ok (.bool k2) W by kernel_rfl).trans (by rw [hk2])
          replace hk2 := Aside0.mk (show ¬ k2 = true from Bool.eq_false_iff.1 hk2)
          go_wp2_with fail
          go_roundg 1
          case measure => have := hk.out; omega
          case rel => exact ⟨3, rfl, by go_num, ⟨by have := hI.out; rwa [show tz Ea (kp k0 k1 k2 k3) 3 = tz Ea (kp k0 k1 k2 k3) 2 from if_neg hk2.out]⟩⟩
      · by_cases hk3 : k3 = true
        · have ix : ∀ W : World, (Instr.index 47 (.agg #[.bool k0, .bool k1, .bool k2, .bool k3]) (.int .i64 3)).run Try.prog W = .ok (.bool true) W := fun W => (show _ = .ok (.bool k3) W by kernel_rfl).trans (by rw [hk3])
          replace hk3 := Aside0.mk hk3
          have t1 : ∀ W : World, (Instr.slice 22 (.slice (some ⟨g, 0, none⟩) 256 256) (some (.int .i64 192)) (some (.int .i64 256)) none).run Try.prog W = .ok (.slice (some ⟨g, 192, none⟩) 64 64) W := fun W => z_sl W g 256 192 (by omega) (by omega)
          have t2 : ∀ W : World, (Instr.slice 22 (.slice (some ⟨gb, 0, none⟩) 256 c1) (some (.int .i64 192)) (some (.int .i64 256)) none).run Try.prog W = .ok (.slice (some ⟨gb, 192, none⟩) 64 (c1 - 192)) W := fun W => z_sl W gb c1 192 (by omega) hc1
          have hs64 : ((Ea.drop 192).take 64).length = 64 := seg_len hlE.out (j := 3) (by omega)
          go_upto_region 9 with fail
          have w0 : IntKind.i64.wrap 3 = 3 := by decide
          have w1 : IntKind.i64.wrap 4 = 4 := by decide
          have w2 : IntKind.i64.wrap 192 = 192 := by decide
          have w3 : IntKind.i64.wrap 256 = 256 := by decide
          go_still_tail 14, (by kernel_rfl)
          change wpList _ _ _ _ _ wr.drew
          obtain ⟨Wd, hWd⟩ : ∃ Wd, wr.drew = Wd := ⟨_, rfl⟩
          replace hI := Aside0.mk (hI.out.step (below_drew (Below.refl _ _)))
          rw [hWd] at hI ⊢
          clear hWd
          obtain ⟨cur, hcur, hfit, hOw⟩ := hI.out.own.splice (ys := (Ea.drop 192).take 64) (a := 192) (by rw [hs64]; omega)
          have HN := Aside0.mk (hI.out.hit hgn.out hOw)
          have HC := Aside0.mk (And.intro hcur (And.intro hfit hs64))
          have HS := Aside0.mk (z_src (a := 192) (hI.out.h.bs (some ⟨gb, 0, none⟩, 256, c1, Ea) (by simp)) (by omega))
          clear hcur hfit hOw hs64
          go_wp2_with (with_reducible refine wpList_copy_own rfl _ _ _ _ rfl 5 Try.underlying22 size1 g 192 64 64 ⟨gb, 192, none⟩ 64 (c1 - 192) rfl rfl cur _ HC.out.1 (u8v ((Ea.drop 192).take 64)) (by rw [u8v_length, HC.out.2.2]; exact (Nat.min_self 64).symm) HS.out (by rw [u8v_length]; exact HC.out.2.1) (u8v_one _) ?_)
          go_roundg 0
          case measure => have := hk.out; omega
          case rel => exact ⟨4, rfl, by go_num, ⟨by have := HN.out; rw [show tz Ea (kp k0 k1 k2 k3) 4 = putL (tz Ea (kp k0 k1 k2 k3) 3) ((Ea.drop 192).take 64) 192 from if_pos hk3.out]; first | exact this | simpa using this⟩⟩
        · replace hk3 : k3 = false := Bool.eq_false_iff.2 hk3
          have ix : ∀ W : World, (Instr.index 47 (.agg #[.bool k0, .bool k1, .bool k2, .bool k3]) (.int .i64 3)).run Try.prog W = .ok (.bool false) W := fun W => (show _ = .ok (.bool k3) W by kernel_rfl).trans (by rw [hk3])
          replace hk3 := Aside0.mk (show ¬ k3 = true from Bool.eq_false_iff.1 hk3)
          go_wp2_with fail
          go_roundg 0
          case measure => have := hk.out; omega
          case rel => exact ⟨4, rfl, by go_num, ⟨by have := hI.out; rwa [show tz Ea (kp k0 k1 k2 k3) 4 = tz Ea (kp k0 k1 k2 k3) 3 from if_neg hk3.out]⟩⟩
      · clear hk hjb
        generalize wr = wq at hI ⊢
        have hr4 := hI.out.h.rows (w.heap.size + 1, #[.bool k0, .bool k1, .bool k2, .bool k3], 47) (by simp [zL])
        by_cases h0 : k0 = true
        · by_cases h3 : k3 = true
          · have hT := Aside0.mk (tz_all hlE.out hzE.out (kb := kp k0 k1 k2 k3) h0 h3)
            go_wp2_with fail
            refine (mdec_enc ge ph tg tx rt pg li xs (some ⟨g, 0, none⟩) 256 wq (by rw [HE.out]; exact hT.out ▸ hI.out.own.bs) hR.out).mono ?_
            rintro e w3 ⟨hB, A3, c3, rfl, hO⟩
            have HJ := Aside0.mk ((hI.out.h.step hB).add #[.int .i64 ge, .int .i64 ph, .int .i64 tg, .int .i64 tx, .int .i64 rt, .int .i64 pg, .int .i64 li, .slice A3 xs.length c3] 26)
            have HO := Aside0.mk (hO.bs.alloc (.cells #[.int .i64 ge, .int .i64 ph, .int .i64 tg, .int .i64 tx, .int .i64 rt, .int .i64 pg, .int .i64 li, .slice A3 xs.length c3] 26))
            clear hB hr4 hO
            go_upto_region 12 with fail
            obtain ⟨W3, hW3⟩ : ∃ X, w3.alloc (.cells #[.int .i64 ge, .int .i64 ph, .int .i64 tg, .int .i64 tx, .int .i64 rt, .int .i64 pg, .int .i64 li, .slice A3 xs.length c3] 26) = X := ⟨_, rfl⟩
            obtain ⟨gn, hgn2⟩ : ∃ k, w3.heap.size = k := ⟨_, rfl⟩
            rw [hW3, hgn2] at HJ
            rw [hW3] at HO
            rw [hW3, hgn2]
            clear hW3 hgn2
            (obtain ⟨p0, p1, p2, p3⟩ := row4_cells' (HJ.out.rows (w.heap.size + 1, #[.bool k0, .bool k1, .bool k2, .bool k3], 47) (by simp [zL])))
            (obtain ⟨q0, q1, q2, q3, q4, q5, q6, q7⟩ := row8_cells (HJ.out.rows (gn, #[.int .i64 ge, .int .i64 ph, .int .i64 tg, .int .i64 tx, .int .i64 rt, .int .i64 pg, .int .i64 li, .slice A3 xs.length c3], 26) (by simp)))
            (obtain ⟨r0, r1, r2, r3, r4, r5, r6, r7⟩ := row8_cells (HJ.out.rows (w.heap.size, #[.int .i64 ge, .int .i64 ph, .int .i64 tg, .int .i64 tx, .int .i64 rt, .int .i64 pg, .int .i64 li, .slice A xs.length c], 24) (by simp [zL])))
            have ms := msame_refl ge ph tg tx rt pg li xs
            go_wp2_with (first
              | (go_at_call 9; (with_reducible refine (alive09_any _).mono ?_); rintro e wa ⟨rfl, hB⟩; (replace HJ := Aside0.mk (HJ.out.step hB)); (replace HO := Aside0.mk (HO.out.below hB)); clear hB; (obtain ⟨p0, p1, p2, p3⟩ := row4_cells' (HJ.out.rows (w.heap.size + 1, #[.bool k0, .bool k1, .bool k2, .bool k3], 47) (by simp [zL]))); (obtain ⟨q0, q1, q2, q3, q4, q5, q6, q7⟩ := row8_cells (HJ.out.rows (gn, #[.int .i64 ge, .int .i64 ph, .int .i64 tg, .int .i64 tx, .int .i64 rt, .int .i64 pg, .int .i64 li, .slice A3 xs.length c3], 26) (by simp))); (obtain ⟨r0, r1, r2, r3, r4, r5, r6, r7⟩ := row8_cells (HJ.out.rows (w.heap.size, #[.int .i64 ge, .int .i64 ph, .int .i64 tg, .int .i64 tx, .int .i64 rt, .int .i64 pg, .int .i64 li, .slice A xs.length c], 24) (by simp [zL]))))
              | (go_at_call 18; (with_reducible refine (rmsame_any ge ph tg tx rt pg li A3 xs.length c3 xs ge ph tg tx rt pg li A xs.length c xs _ HO.out (HX HJ.out)).mono ?_); rintro e wa ⟨rfl, hB⟩; rw [ms]; (replace HJ := Aside0.mk (HJ.out.step hB)); (replace HO := Aside0.mk (HO.out.below hB)); clear hB; (obtain ⟨p0, p1, p2, p3⟩ := row4_cells' (HJ.out.rows (w.heap.size + 1, #[.bool k0, .bool k1, .bool k2, .bool k3], 47) (by simp [zL]))); (obtain ⟨q0, q1, q2, q3, q4, q5, q6, q7⟩ := row8_cells (HJ.out.rows (gn, #[.int .i64 ge, .int .i64 ph, .int .i64 tg, .int .i64 tx, .int .i64 rt, .int .i64 pg, .int .i64 li, .slice A3 xs.length c3], 26) (by simp))); (obtain ⟨r0, r1, r2, r3, r4, r5, r6, r7⟩ := row8_cells (HJ.out.rows (w.heap.size, #[.int .i64 ge, .int .i64 ph, .int .i64 tg, .int .i64 tx, .int .i64 rt, .int .i64 pg, .int .i64 li, .slice A xs.length c], 24) (by simp [zL])))))
            go_ret
            exact ⟨rfl, HJ.out.bel⟩
          · have hT := Aside0.mk (tz_none hlE.out (kb := kp k0 k1 k2 k3) (.inr (Bool.eq_false_iff.2 h3)))
            have h3' : k3 = false := Bool.eq_false_iff.2 h3
            clear h3
            go_wp2_with fail
            refine (mdec_z (some ⟨g, 0, none⟩) 256 256 _ wq hI.out.own.bs hT.out).mono ?_
            rintro e w3 ⟨hB, rfl⟩
            have HJ := Aside0.mk ((hI.out.h.step hB).add #[.int .i64 0, .int .i64 0, .int .i64 0, .int .i64 0, .int .i64 0, .int .i64 0, .int .i64 0, .slice none 0 0] 26)
            clear hB hr4
            go_upto_region 12 with fail
            obtain ⟨W3, hW3⟩ : ∃ X, w3.alloc (.cells #[.int .i64 0, .int .i64 0, .int .i64 0, .int .i64 0, .int .i64 0, .int .i64 0, .int .i64 0, .slice none 0 0] 26) = X := ⟨_, rfl⟩
            obtain ⟨gn, hgn2⟩ : ∃ k, w3.heap.size = k := ⟨_, rfl⟩
            rw [hW3, hgn2] at HJ
            rw [hW3, hgn2]
            clear hW3 hgn2
            (obtain ⟨p0, p1, p2, p3⟩ := row4_cells' (HJ.out.rows (w.heap.size + 1, #[.bool k0, .bool k1, .bool k2, .bool k3], 47) (by simp [zL])))
            go_wp2_with (first
              | (go_at_call 9; (with_reducible refine (alive09_any _).mono ?_); rintro e wa ⟨rfl, hB⟩; (replace HJ := Aside0.mk (HJ.out.step hB)); clear hB; (obtain ⟨p0, p1, p2, p3⟩ := row4_cells' (HJ.out.rows (w.heap.size + 1, #[.bool k0, .bool k1, .bool k2, .bool k3], 47) (by simp [zL])))))
            go_ret
            exact ⟨rfl, HJ.out.bel⟩
        · have hT := Aside0.mk (tz_none hlE.out (kb := kp k0 k1 k2 k3) (.inl (Bool.eq_false_iff.2 h0)))
          have h0' : k0 = false := Bool.eq_false_iff.2 h0
          clear h0
          go_wp2_with fail
          refine (mdec_z (some ⟨g, 0, none⟩) 256 256 _ wq hI.out.own.bs hT.out).mono ?_
          rintro e w3 ⟨hB, rfl⟩
          have HJ := Aside0.mk ((hI.out.h.step hB).add #[.int .i64 0, .int .i64 0, .int .i64 0, .int .i64 0, .int .i64 0, .int .i64 0, .int .i64 0, .slice none 0 0] 26)
          clear hB hr4
          go_upto_region 12 with fail
          obtain ⟨W3, hW3⟩ : ∃ X, w3.alloc (.cells #[.int .i64 0, .int .i64 0, .int .i64 0, .int .i64 0, .int .i64 0, .int .i64 0, .int .i64 0, .slice none 0 0] 26) = X := ⟨_, rfl⟩
          obtain ⟨gn, hgn2⟩ : ∃ k, w3.heap.size = k := ⟨_, rfl⟩
          rw [hW3, hgn2] at HJ
          rw [hW3, hgn2]
          clear hW3 hgn2
          (obtain ⟨p0, p1, p2, p3⟩ := row4_cells' (HJ.out.rows (w.heap.size + 1, #[.bool k0, .bool k1, .bool k2, .bool k3], 47) (by simp [zL])))
          go_wp2_with (first
            | (go_at_call 9; (with_reducible refine (alive09_any _).mono ?_); rintro e wa ⟨rfl, hB⟩; (replace HJ := Aside0.mk (HJ.out.step hB)); clear hB; (obtain ⟨p0, p1, p2, p3⟩ := row4_cells' (HJ.out.rows (w.heap.size + 1, #[.bool k0, .bool k1, .bool k2, .bool k3], 47) (by simp [zL])))))
          go_ret
          exact ⟨rfl, HJ.out.bel⟩
end Go.Proofs.Ytenibcbodjkglaa
