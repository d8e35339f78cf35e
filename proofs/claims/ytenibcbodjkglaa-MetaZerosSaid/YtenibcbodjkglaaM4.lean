/- The walk of meta's Encode. -/
import Derived.Test.YtenibcbodjkglaaM3
import Derived.Test.YtenibcbodjkglaaA7
import Derived.Test.YtenibcbodjkglaaO3
import Derived.Deep.RegionHeld3
set_option linter.unusedVariables false
set_option linter.unusedSimpArgs false
namespace Go.Proofs.Ytenibcbodjkglaa
open Go.RowKit

def magicL : List UInt8 := [82, 71, 65, 85]
def tailL : List UInt8 := [85, 65, 71, 82]
def encW0 : WS := bytesS ⟨0, false, List.replicate 256 0⟩ magicL
def hdS (s : WS) (ge ph tg : Int) : Nat → WS
  | 0 => s
  | 1 => putS s ge 1
  | 2 => putS (putS s ge 1) ph 1
  | _ => putS (putS (putS s ge 1) ph 1) tg 1
def nmS (s : WS) (ge tx rt pg li : Int) : Nat → WS
  | 0 => s
  | 1 => putS s tx (iwI ge)
  | 2 => putS (putS s tx (iwI ge)) rt (iwI ge)
  | 3 => putS (putS (putS s tx (iwI ge)) rt (iwI ge)) pg (iwI ge)
  | _ => putS (putS (putS (putS s tx (iwI ge)) rt (iwI ge)) pg (iwI ge)) li (iwI ge)
def encW1 (ge ph tg tx rt pg li : Int) (xs : List UInt8) : WS := bytesS (nmS (putS (hdS encW0 ge ph tg 3) (xs.length : Int) 1) ge tx rt pg li 4) xs
def encW (ge ph tg tx rt pg li : Int) (xs : List UInt8) : WS := bytesS (skipS (encW1 ge ph tg tx rt pg li xs) (248 - ((encW1 ge ph tg tx rt pg li xs).at_ : Int))) tailL
/-- What Encode hands back, as the program reckons it. -/
def encP (ge ph tg tx rt pg li : Int) (xs : List UInt8) : List UInt8 := sealB (doneB (encW ge ph tg tx rt pg li xs).sp (encW ge ph tg tx rt pg li xs).xs) 252
/-- The writer, and the meta's own cell, while Encode runs. -/
structure EW (w : World) (g g2 : Nat) (u : Array Value) (s : WS) (W : World) : Prop where
  wr : Wr W w.heap.size g g2 256 s
  row : W.heap[w.heap.size]? = some (.cells u 26)
  bel : Below w.heap.size w W
  n1 : w.heap.size ≠ g
  n2 : w.heap.size ≠ g2
theorem EW.step {w W W1 : World} {g g2 : Nat} {u : Array Value} {s : WS} (h : EW w g g2 u s W) (hB : Below W.heap.size W W1) : EW w g g2 u s W1 :=
  ⟨h.wr.below hB, (hB.block _ (Array.getElem?_eq_some_iff.1 h.row).1).trans h.row, below_then h.bel h.bel.size hB, h.n1, h.n2⟩
theorem EW.writer {w W W1 : World} {g g2 : Nat} {u : Array Value} {s s1 : WS} (h : EW w g g2 u s W) (ho : Only2 g g2 W W1) (h1 : Wr W1 w.heap.size g g2 256 s1) : EW w g g2 u s1 W1 :=
  ⟨h1, (ho.block _ (Array.getElem?_eq_some_iff.1 h.row).1 h.n1 h.n2).trans h.row, ho.below h.bel h.wr.lo h.wr.lo2 (Nat.le_refl _), h.n1, h.n2⟩
theorem EW.bs {w W : World} {g g2 : Nat} {u : Array Value} {s : WS} {A : Option Addr} {n c : Nat} {xs : List UInt8} (h : EW w g g2 u s W) (hb : Bs w A n c xs) : Bs W A n c xs := hb.map fun a v k => (h.bel.cell (World.block_lt_of_cell? w a k)).trans k
theorem EW.apart {w W : World} {g g2 : Nat} {u : Array Value} {s : WS} {A : Option Addr} {n c : Nat} {xs : List UInt8} (h : EW w g g2 u s W) (hb : Bs w A n c xs) : (∀ ad, A = some ad → 0 < n → ad.block ≠ g) ∧ (∀ ad, A = some ad → 0 < n → ad.block ≠ g2) :=
  ⟨fun ad e h0 => by have := hb.lt ad e h0; have := h.wr.lo; omega, fun ad e h0 => by have := hb.lt ad e h0; have := h.wr.lo2; omega⟩
/-- A new literal of bytes is apart from a writer. -/
theorem EW.lit {w W : World} {g g2 : Nat} {u : Array Value} {s : WS} (h : EW w g g2 u s W) (m : Nat) : (∀ ad, (some ⟨W.heap.size, 0, none⟩ : Option Addr) = some ad → 0 < m → ad.block ≠ g) ∧ (∀ ad, (some ⟨W.heap.size, 0, none⟩ : Option Addr) = some ad → 0 < m → ad.block ≠ g2) :=
  ⟨fun ad e _ => by injection e with e; subst e; exact (show W.heap.size ≠ g by have := h.wr.lt.1; omega), fun ad e _ => by injection e with e; subst e; exact (show W.heap.size ≠ g2 by have := h.wr.lt.2; omega)⟩
theorem right_bounds {ge ph tg tx rt pg li : Int} {n : Nat} (h : mrightB ge ph tg tx rt pg li n = true) : 1 ≤ ge ∧ ge ≤ 3 ∧ 0 ≤ ph ∧ ph ≤ 1 ∧ 0 ≤ tg ∧ tg ≤ 3 ∧ 1 ≤ tx ∧ tx ≤ 2147483647 ∧ 2 ≤ rt ∧ rt < pg ∧ 3 ≤ pg ∧ pg ≤ 16384 ∧ 0 ≤ li ∧ li < pg ∧ (n : Int) ≤ 24 := by
  obtain ⟨h0, h1, h2, h3, h4, h5, h6, h7⟩ := of_decide_eq_true h
  have h8 := of_decide_eq_true h0
  have hm : tg = 1 ∨ tg = 2 ∨ tg = 3 → mkI tg ≤ 24 := by rintro (rfl | rfl | rfl) <;> decide
  omega

set_option maxHeartbeats 4000000 in
set_option maxRecDepth 100000 in
theorem mencode_any (ge ph tg tx rt pg li : Int) (A : Option Addr) (n c : Nat) (xs : List UInt8) (w : World) (hb : Bs w A n c xs) :
    Calls Try.prog 10 #[.agg #[.int .i64 ge, .int .i64 ph, .int .i64 tg, .int .i64 tx, .int .i64 rt, .int .i64 pg, .int .i64 li, .slice A n c]] w fun e w' => Below w.heap.size w w' ∧
      ((mrightB ge ph tg tx rt pg li n = false ∧ e = .returned (.tuple #[.slice none 0 0, .int .i64 92])) ∨
       (mrightB ge ph tg tx rt pg li n = true ∧ ∃ A' c', e = .returned (.tuple #[.slice A' (encP ge ph tg tx rt pg li xs).length c', .int .i64 0]) ∧ Ow w' w.heap.size A' (encP ge ph tg tx rt pg li xs).length c' (encP ge ph tg tx rt pg li xs))) := by
  have hn := hb.lim
  obtain rfl := hb.len
  have HB := Aside0.mk ((Below.refl w.heap.size w).alloc (Nat.le_refl _) (.cells #[.int .i64 ge, .int .i64 ph, .int .i64 tg, .int .i64 tx, .int .i64 rt, .int .i64 pg, .int .i64 li, .slice A xs.length c] 26))
  have hr := Aside0.mk (heap_alloc_new w (.cells #[.int .i64 ge, .int .i64 ph, .int .i64 tg, .int .i64 tx, .int .i64 rt, .int .i64 pg, .int .i64 li, .slice A xs.length c] 26))
  have HX := Aside0.mk hb
  clear hb
  cases hR : mrightB ge ph tg tx rt pg li xs.length with
  | false =>
    go_enter Try.func10, Try.ntmps10
    go_wp2_with (go_at_call 13; refine (mright_any ge ph tg tx rt pg li A xs.length c _ hn).mono ?_; rintro e w1 ⟨rfl, hB1⟩; rw [hR])
    go_ret2
    exact ⟨below_then HB.out (by simp) hB1, .inl ⟨trivial, rfl⟩⟩
  | true =>
    have BD := Aside0.mk (right_bounds hR)
    have kc := fun W C n c => Lib.run_convert_bytes_const (P := Try.prog) W 22 5 C n c Try.underlying22 Try.underlying5
    go_enter Try.func10, Try.ntmps10
    go_wp2_with (first
      | (go_at_call 13; refine (mright_any ge ph tg tx rt pg li A xs.length c _ hn).mono ?_; rintro e w1 ⟨rfl, hB1⟩; rw [hR]; (have H1 := Aside0.mk (And.intro (below_then HB.out (by simp) hB1) ((hB1.block w.heap.size (by simp)).trans hr.out))); clear hB1)
      | (go_at_call 23; refine (newWriter_any 256 w1).mono ?_; rintro e w2 ⟨g, g2, rfl, hg, hg2, hne, hgl, hc, hO, hB2⟩; (have H2 := Aside0.mk (show EW w g g2 #[.int .i64 ge, .int .i64 ph, .int .i64 tg, .int .i64 tx, .int .i64 rt, .int .i64 pg, .int .i64 li, .slice A xs.length c] ⟨0, false, List.replicate 256 0⟩ w2 from by
          have z1 := H1.out.1.size
          have zl := (Array.getElem?_eq_some_iff.1 H1.out.2).1
          exact ⟨⟨hc, hO.mono z1, hne, by omega, by omega⟩, (hB2.block _ zl).trans H1.out.2, below_then H1.out.1 z1 hB2, by omega, by omega⟩)); clear hg hg2 hne hgl hc hO hB2)
      | (go_at_call 24; refine (wbytes_any w.heap.size g g2 256 _ (some ⟨w2.heap.size, 0, none⟩) 4 4 magicL _ (H2.out.step ((Below.refl _ _).alloc (Nat.le_refl _) (.cells #[.int .u8 82, .int .u8 71, .int .u8 65, .int .u8 85] 5 (4, 5)))).wr (Bs.lit w2 w2.heap.size rfl #[.int .u8 82, .int .u8 71, .int .u8 65, .int .u8 85] 5 (4, 5) 4 4 magicL rfl rfl (by omega) (by omega) (by omega)) (H2.out.lit 4).1 (H2.out.lit 4).2).mono ?_; rintro e w3 ⟨rfl, hW, hO, _⟩; (have H3 := Aside0.mk ((H2.out.step ((Below.refl _ _).alloc (Nat.le_refl _) (.cells #[.int .u8 82, .int .u8 71, .int .u8 65, .int .u8 85] 5 (4, 5)))).writer hO hW)); clear hW hO)
      | (go_at_call 25; refine (heads_any w.heap.size w3).mono ?_; rintro e w4 ⟨rfl, hB4⟩; (have H4 := Aside0.mk (H3.out.step hB4)); clear hB4))
    go_loopg [20] 3 (fun k v wr => ∃ j : Nat, Aside (k + j = 3) ∧ v = .int .i64 (j : Int) ∧ Aside0 (EW w g g2 #[.int .i64 ge, .int .i64 ph, .int .i64 tg, .int .i64 tx, .int .i64 rt, .int .i64 pg, .int .i64 li, .slice A xs.length c] (hdS encW0 ge ph tg j) wr))
    case atStart => exact ⟨0, rfl, rfl, H4⟩
    case round =>
      obtain ⟨j, hk, rfl, hI⟩ := hrel
      have hjb : j ≤ 3 := by have := hk.out; omega
      rcases (show j = 0 ∨ j = 1 ∨ j = 2 ∨ j = 3 by omega) with rfl | rfl | rfl | rfl
      · obtain ⟨z0, z1, z2, z3, z4, z5, z6, z7⟩ := row8_cells hI.out.row
        have ix := hix0 w.heap.size
        go_wp2_with (go_at_call 26; refine (put_any w.heap.size g g2 256 _ ge 1 wr (by have := BD.out; omega) hI.out.wr).mono ?_; rintro e w5 ⟨rfl, hW5, hO5, _⟩; (have H5 := Aside0.mk (hI.out.writer hO5 hW5)); clear hW5 hO5)
        go_roundg (3 - (0 + 1))
        case measure => have := hk.out; omega
        case rel => exact ⟨0 + 1, rfl, by go_num, H5⟩
      · obtain ⟨z0, z1, z2, z3, z4, z5, z6, z7⟩ := row8_cells hI.out.row
        have ix := hix1 w.heap.size
        go_wp2_with (go_at_call 26; refine (put_any w.heap.size g g2 256 _ ph 1 wr (by have := BD.out; omega) hI.out.wr).mono ?_; rintro e w5 ⟨rfl, hW5, hO5, _⟩; (have H5 := Aside0.mk (hI.out.writer hO5 hW5)); clear hW5 hO5)
        go_roundg (3 - (1 + 1))
        case measure => have := hk.out; omega
        case rel => exact ⟨1 + 1, rfl, by go_num, H5⟩
      · obtain ⟨z0, z1, z2, z3, z4, z5, z6, z7⟩ := row8_cells hI.out.row
        have ix := hix2 w.heap.size
        go_wp2_with (go_at_call 26; refine (put_any w.heap.size g g2 256 _ tg 1 wr (by have := BD.out; omega) hI.out.wr).mono ?_; rintro e w5 ⟨rfl, hW5, hO5, _⟩; (have H5 := Aside0.mk (hI.out.writer hO5 hW5)); clear hW5 hO5)
        go_roundg (3 - (2 + 1))
        case measure => have := hk.out; omega
        case rel => exact ⟨2 + 1, rfl, by go_num, H5⟩
      · obtain ⟨z0, z1, z2, z3, z4, z5, z6, z7⟩ := row8_cells hI.out.row
        clear hk hjb
        generalize wr = wq at hI z0 z1 z2 z3 z4 z5 z6 z7 ⊢
        go_wp2_with (first | (go_at_call 26; refine (put_any w.heap.size g g2 256 _ (xs.length : Int) 1 wq (by have := BD.out; omega) hI.out.wr).mono ?_; rintro e w5 ⟨rfl, hW5, hO5, _⟩; (have H5 := Aside0.mk (hI.out.writer hO5 hW5)); clear hW5 hO5) | (go_at_call 27; refine (numbers_any w.heap.size w5).mono ?_; rintro e w6 ⟨rfl, hB6⟩; (have H6 := Aside0.mk (H5.out.step hB6)); clear hB6))
        clear hI z0 z1 z2 z3 z4 z5 z6 z7
        obtain ⟨s5, hs5⟩ : ∃ s5, putS (hdS encW0 ge ph tg 3) (xs.length : Int) 1 = s5 := ⟨_, rfl⟩
        rw [hs5] at H6
        go_loopg [35] 4 (fun k v wr => ∃ j : Nat, Aside (k + j = 4) ∧ v = .int .i64 (j : Int) ∧ Aside0 (EW w g g2 #[.int .i64 ge, .int .i64 ph, .int .i64 tg, .int .i64 tx, .int .i64 rt, .int .i64 pg, .int .i64 li, .slice A xs.length c] (nmS s5 ge tx rt pg li j) wr))
        case atStart => exact ⟨0, rfl, rfl, H6⟩
        case round =>
          obtain ⟨j, hk, rfl, hI⟩ := hrel
          have hjb : j ≤ 4 := by have := hk.out; omega
          rcases (show j = 0 ∨ j = 1 ∨ j = 2 ∨ j = 3 ∨ j = 4 by omega) with rfl | rfl | rfl | rfl | rfl
          · obtain ⟨z0, z1, z2, z3, z4, z5, z6, z7⟩ := row8_cells hI.out.row
            have ix := nix0 w.heap.size
            go_upto_region 14 with fail
            refine wp_region_held_drew (S := (fun w' => w'.cell? ⟨w.heap.size, 3, none⟩ = some (.int .i64 tx) ∧ w'.cell? ⟨w.heap.size, 0, none⟩ = some (.int .i64 ge))) (by kernel_rfl) ⟨z3, z0⟩ (fun hHeld => ?_)
            refine wpAnyH_take (i := 0) (v := ?_) (by simp only [List.getElem?_toArray, List.getElem?_cons_succ, List.getElem?_cons_zero]; rfl) (by kernel_rfl) (by kernel_rfl) (by kernel_rfl) (by exact fun _ _ _ h => h) (Or.inl ⟨by rfl, ?_⟩) hHeld ?_
            rotate_left
            · (intro w' hSw; (try dsimp only at hSw); go_simp; try with_reducible rfl)
            try simp only [Act.put, List.setIfInBounds_toArray, List.set_cons_zero, List.set_cons_succ]
            refine wpAnyH_take (i := 1) (v := ?_) (by simp only [List.getElem?_toArray, List.getElem?_cons_succ, List.getElem?_cons_zero]; rfl) (by kernel_rfl) (by kernel_rfl) (by kernel_rfl) (by exact fun _ _ _ h => h) (Or.inl ⟨by rfl, ?_⟩) hHeld ?_
            rotate_left
            · (intro w' hSw; (try dsimp only at hSw); go_simp; try with_reducible rfl)
            try simp only [Act.put, List.setIfInBounds_toArray, List.set_cons_zero, List.set_cons_succ]
            refine wpAnyH_take (i := 2) (v := ?_) (by simp only [List.getElem?_toArray, List.getElem?_cons_succ, List.getElem?_cons_zero]; rfl) (by kernel_rfl) (by kernel_rfl) (by kernel_rfl) (by exact fun _ _ _ h => h) (Or.inl ⟨by rfl, ?_⟩) hHeld ?_
            rotate_left
            · (intro w' hSw; (try dsimp only at hSw); go_simp; try with_reducible rfl)
            try simp only [Act.put, List.setIfInBounds_toArray, List.set_cons_zero, List.set_cons_succ]
            refine wpAnyH_take (i := 3) (v := ?_) (by simp only [List.getElem?_toArray, List.getElem?_cons_succ, List.getElem?_cons_zero]; rfl) (by kernel_rfl) (by kernel_rfl) (by kernel_rfl) (by exact fun _ _ _ h => h) (Or.inl ⟨by rfl, ?_⟩) hHeld ?_
            rotate_left
            · (intro w' hSw; (try dsimp only at hSw); go_simp; try with_reducible rfl)
            try simp only [Act.put, List.setIfInBounds_toArray, List.set_cons_zero, List.set_cons_succ]
            refine wpAnyH_take (i := 4) (v := ?_) (by simp only [List.getElem?_toArray, List.getElem?_cons_succ, List.getElem?_cons_zero]; rfl) (by kernel_rfl) (by kernel_rfl) (by kernel_rfl) (by exact fun _ _ _ h => h) (Or.inl ⟨by rfl, ?_⟩) hHeld ?_
            rotate_left
            · (intro w' hSw; (try dsimp only at hSw); go_simp; try with_reducible rfl)
            try simp only [Act.put, List.setIfInBounds_toArray, List.set_cons_zero, List.set_cons_succ]
            refine wpAnyH_take (i := 5) (v := ?_) (by simp only [List.getElem?_toArray, List.getElem?_cons_succ, List.getElem?_cons_zero]; rfl) (by kernel_rfl) (by kernel_rfl) (by kernel_rfl) (by exact fun _ _ _ h => h) (Or.inl ⟨by rfl, ?_⟩) hHeld ?_
            rotate_left
            · (intro w' hSw; (try dsimp only at hSw); go_simp; try with_reducible rfl)
            try simp only [Act.put, List.setIfInBounds_toArray, List.set_cons_zero, List.set_cons_succ]
            refine wpAnyH_ready (rs := [6]) (by kernel_rfl) (by simp) ?_
            refine AllReadyH.cons (by simp only [List.getElem?_toArray, List.getElem?_cons_succ, List.getElem?_cons_zero]; rfl) (fun K hK => ?_) AllReadyH.nil
            rw [if_pos (by rfl)]
            go_simp
            refine (idWidth_any ge _).mono ?_
            rintro e w7 ⟨rfl, hB7⟩
            have H7 := Aside0.mk ((hI.out.step (below_drew (Below.refl _ _))).step hB7)
            clear hB7 z0 z1 z2 z3 z4 z5 z6 z7
            obtain ⟨z0, z1, z2, z3, z4, z5, z6, z7⟩ := row8_cells H7.out.row
            dsimp only
            refine hK.out _ _ ⟨z3, z0⟩ (fun hHeld => ?_)
            clear hK K
            try simp only [Act.put, List.setIfInBounds_toArray, List.set_cons_zero, List.set_cons_succ]
            refine wpAnyH_ready (rs := [7]) (by kernel_rfl) (by simp) ?_
            refine AllReadyH.cons (by simp only [List.getElem?_toArray, List.getElem?_cons_succ, List.getElem?_cons_zero]; rfl) (fun K hK => ?_) AllReadyH.nil
            rw [if_pos (by rfl)]
            go_simp
            refine (put_any w.heap.size g g2 256 _ tx (iwI ge) w7 (by have := BD.out; omega) H7.out.wr).mono ?_
            rintro e w8 ⟨rfl, hW8, hO8, _⟩
            have H8 := Aside0.mk (H7.out.writer hO8 hW8)
            clear hW8 hO8 z0 z1 z2 z3 z4 z5 z6 z7
            obtain ⟨z0, z1, z2, z3, z4, z5, z6, z7⟩ := row8_cells H8.out.row
            dsimp only
            refine hK.out _ _ ⟨z3, z0⟩ (fun hHeld => ?_)
            clear hK K
            try simp only [Act.put, List.setIfInBounds_toArray, List.set_cons_zero, List.set_cons_succ]
            refine wpAnyH_done (by kernel_rfl) ?_ _
            go_wp2_with fail
            go_roundg (4 - (0 + 1))
            case measure => have := hk.out; omega
            case rel => exact ⟨0 + 1, rfl, by go_num, H8⟩
          · obtain ⟨z0, z1, z2, z3, z4, z5, z6, z7⟩ := row8_cells hI.out.row
            have ix := nix1 w.heap.size
            go_upto_region 14 with fail
            refine wp_region_held_drew (S := (fun w' => w'.cell? ⟨w.heap.size, 4, none⟩ = some (.int .i64 rt) ∧ w'.cell? ⟨w.heap.size, 0, none⟩ = some (.int .i64 ge))) (by kernel_rfl) ⟨z4, z0⟩ (fun hHeld => ?_)
            refine wpAnyH_take (i := 0) (v := ?_) (by simp only [List.getElem?_toArray, List.getElem?_cons_succ, List.getElem?_cons_zero]; rfl) (by kernel_rfl) (by kernel_rfl) (by kernel_rfl) (by exact fun _ _ _ h => h) (Or.inl ⟨by rfl, ?_⟩) hHeld ?_
            rotate_left
            · (intro w' hSw; (try dsimp only at hSw); go_simp; try with_reducible rfl)
            try simp only [Act.put, List.setIfInBounds_toArray, List.set_cons_zero, List.set_cons_succ]
            refine wpAnyH_take (i := 1) (v := ?_) (by simp only [List.getElem?_toArray, List.getElem?_cons_succ, List.getElem?_cons_zero]; rfl) (by kernel_rfl) (by kernel_rfl) (by kernel_rfl) (by exact fun _ _ _ h => h) (Or.inl ⟨by rfl, ?_⟩) hHeld ?_
            rotate_left
            · (intro w' hSw; (try dsimp only at hSw); go_simp; try with_reducible rfl)
            try simp only [Act.put, List.setIfInBounds_toArray, List.set_cons_zero, List.set_cons_succ]
            refine wpAnyH_take (i := 2) (v := ?_) (by simp only [List.getElem?_toArray, List.getElem?_cons_succ, List.getElem?_cons_zero]; rfl) (by kernel_rfl) (by kernel_rfl) (by kernel_rfl) (by exact fun _ _ _ h => h) (Or.inl ⟨by rfl, ?_⟩) hHeld ?_
            rotate_left
            · (intro w' hSw; (try dsimp only at hSw); go_simp; try with_reducible rfl)
            try simp only [Act.put, List.setIfInBounds_toArray, List.set_cons_zero, List.set_cons_succ]
            refine wpAnyH_take (i := 3) (v := ?_) (by simp only [List.getElem?_toArray, List.getElem?_cons_succ, List.getElem?_cons_zero]; rfl) (by kernel_rfl) (by kernel_rfl) (by kernel_rfl) (by exact fun _ _ _ h => h) (Or.inl ⟨by rfl, ?_⟩) hHeld ?_
            rotate_left
            · (intro w' hSw; (try dsimp only at hSw); go_simp; try with_reducible rfl)
            try simp only [Act.put, List.setIfInBounds_toArray, List.set_cons_zero, List.set_cons_succ]
            refine wpAnyH_take (i := 4) (v := ?_) (by simp only [List.getElem?_toArray, List.getElem?_cons_succ, List.getElem?_cons_zero]; rfl) (by kernel_rfl) (by kernel_rfl) (by kernel_rfl) (by exact fun _ _ _ h => h) (Or.inl ⟨by rfl, ?_⟩) hHeld ?_
            rotate_left
            · (intro w' hSw; (try dsimp only at hSw); go_simp; try with_reducible rfl)
            try simp only [Act.put, List.setIfInBounds_toArray, List.set_cons_zero, List.set_cons_succ]
            refine wpAnyH_take (i := 5) (v := ?_) (by simp only [List.getElem?_toArray, List.getElem?_cons_succ, List.getElem?_cons_zero]; rfl) (by kernel_rfl) (by kernel_rfl) (by kernel_rfl) (by exact fun _ _ _ h => h) (Or.inl ⟨by rfl, ?_⟩) hHeld ?_
            rotate_left
            · (intro w' hSw; (try dsimp only at hSw); go_simp; try with_reducible rfl)
            try simp only [Act.put, List.setIfInBounds_toArray, List.set_cons_zero, List.set_cons_succ]
            refine wpAnyH_ready (rs := [6]) (by kernel_rfl) (by simp) ?_
            refine AllReadyH.cons (by simp only [List.getElem?_toArray, List.getElem?_cons_succ, List.getElem?_cons_zero]; rfl) (fun K hK => ?_) AllReadyH.nil
            rw [if_pos (by rfl)]
            go_simp
            refine (idWidth_any ge _).mono ?_
            rintro e w7 ⟨rfl, hB7⟩
            have H7 := Aside0.mk ((hI.out.step (below_drew (Below.refl _ _))).step hB7)
            clear hB7 z0 z1 z2 z3 z4 z5 z6 z7
            obtain ⟨z0, z1, z2, z3, z4, z5, z6, z7⟩ := row8_cells H7.out.row
            dsimp only
            refine hK.out _ _ ⟨z4, z0⟩ (fun hHeld => ?_)
            clear hK K
            try simp only [Act.put, List.setIfInBounds_toArray, List.set_cons_zero, List.set_cons_succ]
            refine wpAnyH_ready (rs := [7]) (by kernel_rfl) (by simp) ?_
            refine AllReadyH.cons (by simp only [List.getElem?_toArray, List.getElem?_cons_succ, List.getElem?_cons_zero]; rfl) (fun K hK => ?_) AllReadyH.nil
            rw [if_pos (by rfl)]
            go_simp
            refine (put_any w.heap.size g g2 256 _ rt (iwI ge) w7 (by have := BD.out; omega) H7.out.wr).mono ?_
            rintro e w8 ⟨rfl, hW8, hO8, _⟩
            have H8 := Aside0.mk (H7.out.writer hO8 hW8)
            clear hW8 hO8 z0 z1 z2 z3 z4 z5 z6 z7
            obtain ⟨z0, z1, z2, z3, z4, z5, z6, z7⟩ := row8_cells H8.out.row
            dsimp only
            refine hK.out _ _ ⟨z4, z0⟩ (fun hHeld => ?_)
            clear hK K
            try simp only [Act.put, List.setIfInBounds_toArray, List.set_cons_zero, List.set_cons_succ]
            refine wpAnyH_done (by kernel_rfl) ?_ _
            go_wp2_with fail
            go_roundg (4 - (1 + 1))
            case measure => have := hk.out; omega
            case rel => exact ⟨1 + 1, rfl, by go_num, H8⟩
          · obtain ⟨z0, z1, z2, z3, z4, z5, z6, z7⟩ := row8_cells hI.out.row
            have ix := nix2 w.heap.size
            go_upto_region 14 with fail
            refine wp_region_held_drew (S := (fun w' => w'.cell? ⟨w.heap.size, 5, none⟩ = some (.int .i64 pg) ∧ w'.cell? ⟨w.heap.size, 0, none⟩ = some (.int .i64 ge))) (by kernel_rfl) ⟨z5, z0⟩ (fun hHeld => ?_)
            refine wpAnyH_take (i := 0) (v := ?_) (by simp only [List.getElem?_toArray, List.getElem?_cons_succ, List.getElem?_cons_zero]; rfl) (by kernel_rfl) (by kernel_rfl) (by kernel_rfl) (by exact fun _ _ _ h => h) (Or.inl ⟨by rfl, ?_⟩) hHeld ?_
            rotate_left
            · (intro w' hSw; (try dsimp only at hSw); go_simp; try with_reducible rfl)
            try simp only [Act.put, List.setIfInBounds_toArray, List.set_cons_zero, List.set_cons_succ]
            refine wpAnyH_take (i := 1) (v := ?_) (by simp only [List.getElem?_toArray, List.getElem?_cons_succ, List.getElem?_cons_zero]; rfl) (by kernel_rfl) (by kernel_rfl) (by kernel_rfl) (by exact fun _ _ _ h => h) (Or.inl ⟨by rfl, ?_⟩) hHeld ?_
            rotate_left
            · (intro w' hSw; (try dsimp only at hSw); go_simp; try with_reducible rfl)
            try simp only [Act.put, List.setIfInBounds_toArray, List.set_cons_zero, List.set_cons_succ]
            refine wpAnyH_take (i := 2) (v := ?_) (by simp only [List.getElem?_toArray, List.getElem?_cons_succ, List.getElem?_cons_zero]; rfl) (by kernel_rfl) (by kernel_rfl) (by kernel_rfl) (by exact fun _ _ _ h => h) (Or.inl ⟨by rfl, ?_⟩) hHeld ?_
            rotate_left
            · (intro w' hSw; (try dsimp only at hSw); go_simp; try with_reducible rfl)
            try simp only [Act.put, List.setIfInBounds_toArray, List.set_cons_zero, List.set_cons_succ]
            refine wpAnyH_take (i := 3) (v := ?_) (by simp only [List.getElem?_toArray, List.getElem?_cons_succ, List.getElem?_cons_zero]; rfl) (by kernel_rfl) (by kernel_rfl) (by kernel_rfl) (by exact fun _ _ _ h => h) (Or.inl ⟨by rfl, ?_⟩) hHeld ?_
            rotate_left
            · (intro w' hSw; (try dsimp only at hSw); go_simp; try with_reducible rfl)
            try simp only [Act.put, List.setIfInBounds_toArray, List.set_cons_zero, List.set_cons_succ]
            refine wpAnyH_take (i := 4) (v := ?_) (by simp only [List.getElem?_toArray, List.getElem?_cons_succ, List.getElem?_cons_zero]; rfl) (by kernel_rfl) (by kernel_rfl) (by kernel_rfl) (by exact fun _ _ _ h => h) (Or.inl ⟨by rfl, ?_⟩) hHeld ?_
            rotate_left
            · (intro w' hSw; (try dsimp only at hSw); go_simp; try with_reducible rfl)
            try simp only [Act.put, List.setIfInBounds_toArray, List.set_cons_zero, List.set_cons_succ]
            refine wpAnyH_take (i := 5) (v := ?_) (by simp only [List.getElem?_toArray, List.getElem?_cons_succ, List.getElem?_cons_zero]; rfl) (by kernel_rfl) (by kernel_rfl) (by kernel_rfl) (by exact fun _ _ _ h => h) (Or.inl ⟨by rfl, ?_⟩) hHeld ?_
            rotate_left
            · (intro w' hSw; (try dsimp only at hSw); go_simp; try with_reducible rfl)
            try simp only [Act.put, List.setIfInBounds_toArray, List.set_cons_zero, List.set_cons_succ]
            refine wpAnyH_ready (rs := [6]) (by kernel_rfl) (by simp) ?_
            refine AllReadyH.cons (by simp only [List.getElem?_toArray, List.getElem?_cons_succ, List.getElem?_cons_zero]; rfl) (fun K hK => ?_) AllReadyH.nil
            rw [if_pos (by rfl)]
            go_simp
            refine (idWidth_any ge _).mono ?_
            rintro e w7 ⟨rfl, hB7⟩
            have H7 := Aside0.mk ((hI.out.step (below_drew (Below.refl _ _))).step hB7)
            clear hB7 z0 z1 z2 z3 z4 z5 z6 z7
            obtain ⟨z0, z1, z2, z3, z4, z5, z6, z7⟩ := row8_cells H7.out.row
            dsimp only
            refine hK.out _ _ ⟨z5, z0⟩ (fun hHeld => ?_)
            clear hK K
            try simp only [Act.put, List.setIfInBounds_toArray, List.set_cons_zero, List.set_cons_succ]
            refine wpAnyH_ready (rs := [7]) (by kernel_rfl) (by simp) ?_
            refine AllReadyH.cons (by simp only [List.getElem?_toArray, List.getElem?_cons_succ, List.getElem?_cons_zero]; rfl) (fun K hK => ?_) AllReadyH.nil
            rw [if_pos (by rfl)]
            go_simp
            refine (put_any w.heap.size g g2 256 _ pg (iwI ge) w7 (by have := BD.out; omega) H7.out.wr).mono ?_
            rintro e w8 ⟨rfl, hW8, hO8, _⟩
            have H8 := Aside0.mk (H7.out.writer hO8 hW8)
            clear hW8 hO8 z0 z1 z2 z3 z4 z5 z6 z7
            obtain ⟨z0, z1, z2, z3, z4, z5, z6, z7⟩ := row8_cells H8.out.row
            dsimp only
            refine hK.out _ _ ⟨z5, z0⟩ (fun hHeld => ?_)
            clear hK K
            try simp only [Act.put, List.setIfInBounds_toArray, List.set_cons_zero, List.set_cons_succ]
            refine wpAnyH_done (by kernel_rfl) ?_ _
            go_wp2_with fail
            go_roundg (4 - (2 + 1))
            case measure => have := hk.out; omega
            case rel => exact ⟨2 + 1, rfl, by go_num, H8⟩
          · obtain ⟨z0, z1, z2, z3, z4, z5, z6, z7⟩ := row8_cells hI.out.row
            have ix := nix3 w.heap.size
            go_upto_region 14 with fail
            refine wp_region_held_drew (S := (fun w' => w'.cell? ⟨w.heap.size, 6, none⟩ = some (.int .i64 li) ∧ w'.cell? ⟨w.heap.size, 0, none⟩ = some (.int .i64 ge))) (by kernel_rfl) ⟨z6, z0⟩ (fun hHeld => ?_)
            refine wpAnyH_take (i := 0) (v := ?_) (by simp only [List.getElem?_toArray, List.getElem?_cons_succ, List.getElem?_cons_zero]; rfl) (by kernel_rfl) (by kernel_rfl) (by kernel_rfl) (by exact fun _ _ _ h => h) (Or.inl ⟨by rfl, ?_⟩) hHeld ?_
            rotate_left
            · (intro w' hSw; (try dsimp only at hSw); go_simp; try with_reducible rfl)
            try simp only [Act.put, List.setIfInBounds_toArray, List.set_cons_zero, List.set_cons_succ]
            refine wpAnyH_take (i := 1) (v := ?_) (by simp only [List.getElem?_toArray, List.getElem?_cons_succ, List.getElem?_cons_zero]; rfl) (by kernel_rfl) (by kernel_rfl) (by kernel_rfl) (by exact fun _ _ _ h => h) (Or.inl ⟨by rfl, ?_⟩) hHeld ?_
            rotate_left
            · (intro w' hSw; (try dsimp only at hSw); go_simp; try with_reducible rfl)
            try simp only [Act.put, List.setIfInBounds_toArray, List.set_cons_zero, List.set_cons_succ]
            refine wpAnyH_take (i := 2) (v := ?_) (by simp only [List.getElem?_toArray, List.getElem?_cons_succ, List.getElem?_cons_zero]; rfl) (by kernel_rfl) (by kernel_rfl) (by kernel_rfl) (by exact fun _ _ _ h => h) (Or.inl ⟨by rfl, ?_⟩) hHeld ?_
            rotate_left
            · (intro w' hSw; (try dsimp only at hSw); go_simp; try with_reducible rfl)
            try simp only [Act.put, List.setIfInBounds_toArray, List.set_cons_zero, List.set_cons_succ]
            refine wpAnyH_take (i := 3) (v := ?_) (by simp only [List.getElem?_toArray, List.getElem?_cons_succ, List.getElem?_cons_zero]; rfl) (by kernel_rfl) (by kernel_rfl) (by kernel_rfl) (by exact fun _ _ _ h => h) (Or.inl ⟨by rfl, ?_⟩) hHeld ?_
            rotate_left
            · (intro w' hSw; (try dsimp only at hSw); go_simp; try with_reducible rfl)
            try simp only [Act.put, List.setIfInBounds_toArray, List.set_cons_zero, List.set_cons_succ]
            refine wpAnyH_take (i := 4) (v := ?_) (by simp only [List.getElem?_toArray, List.getElem?_cons_succ, List.getElem?_cons_zero]; rfl) (by kernel_rfl) (by kernel_rfl) (by kernel_rfl) (by exact fun _ _ _ h => h) (Or.inl ⟨by rfl, ?_⟩) hHeld ?_
            rotate_left
            · (intro w' hSw; (try dsimp only at hSw); go_simp; try with_reducible rfl)
            try simp only [Act.put, List.setIfInBounds_toArray, List.set_cons_zero, List.set_cons_succ]
            refine wpAnyH_take (i := 5) (v := ?_) (by simp only [List.getElem?_toArray, List.getElem?_cons_succ, List.getElem?_cons_zero]; rfl) (by kernel_rfl) (by kernel_rfl) (by kernel_rfl) (by exact fun _ _ _ h => h) (Or.inl ⟨by rfl, ?_⟩) hHeld ?_
            rotate_left
            · (intro w' hSw; (try dsimp only at hSw); go_simp; try with_reducible rfl)
            try simp only [Act.put, List.setIfInBounds_toArray, List.set_cons_zero, List.set_cons_succ]
            refine wpAnyH_ready (rs := [6]) (by kernel_rfl) (by simp) ?_
            refine AllReadyH.cons (by simp only [List.getElem?_toArray, List.getElem?_cons_succ, List.getElem?_cons_zero]; rfl) (fun K hK => ?_) AllReadyH.nil
            rw [if_pos (by rfl)]
            go_simp
            refine (idWidth_any ge _).mono ?_
            rintro e w7 ⟨rfl, hB7⟩
            have H7 := Aside0.mk ((hI.out.step (below_drew (Below.refl _ _))).step hB7)
            clear hB7 z0 z1 z2 z3 z4 z5 z6 z7
            obtain ⟨z0, z1, z2, z3, z4, z5, z6, z7⟩ := row8_cells H7.out.row
            dsimp only
            refine hK.out _ _ ⟨z6, z0⟩ (fun hHeld => ?_)
            clear hK K
            try simp only [Act.put, List.setIfInBounds_toArray, List.set_cons_zero, List.set_cons_succ]
            refine wpAnyH_ready (rs := [7]) (by kernel_rfl) (by simp) ?_
            refine AllReadyH.cons (by simp only [List.getElem?_toArray, List.getElem?_cons_succ, List.getElem?_cons_zero]; rfl) (fun K hK => ?_) AllReadyH.nil
            rw [if_pos (by rfl)]
            go_simp
            refine (put_any w.heap.size g g2 256 _ li (iwI ge) w7 (by have := BD.out; omega) H7.out.wr).mono ?_
            rintro e w8 ⟨rfl, hW8, hO8, _⟩
            have H8 := Aside0.mk (H7.out.writer hO8 hW8)
            clear hW8 hO8 z0 z1 z2 z3 z4 z5 z6 z7
            obtain ⟨z0, z1, z2, z3, z4, z5, z6, z7⟩ := row8_cells H8.out.row
            dsimp only
            refine hK.out _ _ ⟨z6, z0⟩ (fun hHeld => ?_)
            clear hK K
            try simp only [Act.put, List.setIfInBounds_toArray, List.set_cons_zero, List.set_cons_succ]
            refine wpAnyH_done (by kernel_rfl) ?_ _
            go_wp2_with fail
            go_roundg (4 - (3 + 1))
            case measure => have := hk.out; omega
            case rel => exact ⟨3 + 1, rfl, by go_num, H8⟩
          · clear hk hjb
            generalize wr = wp at hI ⊢
            obtain ⟨z0, z1, z2, z3, z4, z5, z6, z7⟩ := row8_cells hI.out.row
            have hap := hI.out.apart HX.out
            go_upto_region 17 with (go_at_call 24; refine (wbytes_any w.heap.size g g2 256 _ A xs.length c xs wp hI.out.wr (hI.out.bs HX.out) hap.1 hap.2).mono ?_; rintro e w7 ⟨rfl, hW7, hO7, _⟩; (have H7 := Aside0.mk (hI.out.writer hO7 hW7)); clear hW7 hO7)
            clear hap z0 z1 z2 z3 z4 z5 z6 z7
            obtain ⟨s7, hs7⟩ : ∃ s7, bytesS (nmS s5 ge tx rt pg li 4) xs = s7 := ⟨_, rfl⟩
            rw [hs7] at H7
            have hle : (s7.at_ : Int) ≤ 140737488355328 := by have := H7.out.wr.cur.le; have := H7.out.wr.cur.lim; omega
            refine wp_region_held_drew (S := (fun _ => True)) (by kernel_rfl) trivial (fun hHeld => ?_)
            refine wpAnyH_take (i := 0) (v := ?_) (by simp only [List.getElem?_toArray, List.getElem?_cons_succ, List.getElem?_cons_zero]; rfl) (by kernel_rfl) (by kernel_rfl) (by kernel_rfl) (by exact fun _ _ _ h => h) (Or.inl ⟨by rfl, ?_⟩) hHeld ?_
            rotate_left
            · (intro w' hSw; (try dsimp only at hSw); go_simp; try with_reducible rfl)
            try simp only [Act.put, List.setIfInBounds_toArray, List.set_cons_zero, List.set_cons_succ]
            refine wpAnyH_take (i := 1) (v := ?_) (by simp only [List.getElem?_toArray, List.getElem?_cons_succ, List.getElem?_cons_zero]; rfl) (by kernel_rfl) (by kernel_rfl) (by kernel_rfl) (by exact fun _ _ _ h => h) (Or.inl ⟨by rfl, ?_⟩) hHeld ?_
            rotate_left
            · (intro w' hSw; (try dsimp only at hSw); go_simp; try with_reducible rfl)
            try simp only [Act.put, List.setIfInBounds_toArray, List.set_cons_zero, List.set_cons_succ]
            refine wpAnyH_take (i := 2) (v := ?_) (by simp only [List.getElem?_toArray, List.getElem?_cons_succ, List.getElem?_cons_zero]; rfl) (by kernel_rfl) (by kernel_rfl) (by kernel_rfl) (by exact fun _ _ _ h => h) (Or.inl ⟨by rfl, ?_⟩) hHeld ?_
            rotate_left
            · (intro w' hSw; (try dsimp only at hSw); go_simp; try with_reducible rfl)
            try simp only [Act.put, List.setIfInBounds_toArray, List.set_cons_zero, List.set_cons_succ]
            refine wpAnyH_take (i := 3) (v := ?_) (by simp only [List.getElem?_toArray, List.getElem?_cons_succ, List.getElem?_cons_zero]; rfl) (by kernel_rfl) (by kernel_rfl) (by kernel_rfl) (by exact fun _ _ _ h => h) (Or.inl ⟨by rfl, ?_⟩) hHeld ?_
            rotate_left
            · (intro w' hSw; (try dsimp only at hSw); go_simp; try with_reducible rfl)
            try simp only [Act.put, List.setIfInBounds_toArray, List.set_cons_zero, List.set_cons_succ]
            refine wpAnyH_take (i := 4) (v := ?_) (by simp only [List.getElem?_toArray, List.getElem?_cons_succ, List.getElem?_cons_zero]; rfl) (by kernel_rfl) (by kernel_rfl) (by kernel_rfl) (by exact fun _ _ _ h => h) (Or.inl ⟨by rfl, ?_⟩) hHeld ?_
            rotate_left
            · (intro w' hSw; (try dsimp only at hSw); go_simp; try with_reducible rfl)
            try simp only [Act.put, List.setIfInBounds_toArray, List.set_cons_zero, List.set_cons_succ]
            refine wpAnyH_take (i := 5) (v := ?_) (by simp only [List.getElem?_toArray, List.getElem?_cons_succ, List.getElem?_cons_zero]; rfl) (by kernel_rfl) (by kernel_rfl) (by kernel_rfl) (by exact fun _ _ _ h => h) (Or.inl ⟨by rfl, ?_⟩) hHeld ?_
            rotate_left
            · (intro w' hSw; (try dsimp only at hSw); go_simp; try with_reducible rfl)
            try simp only [Act.put, List.setIfInBounds_toArray, List.set_cons_zero, List.set_cons_succ]
            refine wpAnyH_ready (rs := [6]) (by kernel_rfl) (by simp) ?_
            refine AllReadyH.cons (by simp only [List.getElem?_toArray, List.getElem?_cons_succ, List.getElem?_cons_zero]; rfl) (fun K hK => ?_) AllReadyH.nil
            rw [if_pos (by rfl)]
            go_simp
            refine (at_any g _ _ _ _ _ _ _ (H7.out.step (below_drew (Below.refl _ _))).wr.cur).mono ?_
            rintro e wa ⟨rfl, rfl⟩
            dsimp only
            refine hK.out _ _ trivial (fun hHeld => ?_)
            clear hK K
            try simp only [Act.put, List.setIfInBounds_toArray, List.set_cons_zero, List.set_cons_succ]
            refine wpAnyH_take (i := 7) (v := ?_) (by simp only [List.getElem?_toArray, List.getElem?_cons_succ, List.getElem?_cons_zero]; rfl) (by kernel_rfl) (by kernel_rfl) (by kernel_rfl) (by exact fun _ _ _ h => h) (Or.inl ⟨by rfl, ?_⟩) hHeld ?_
            rotate_left
            · (intro w' hSw; (try dsimp only at hSw); go_simp; try with_reducible rfl)
            try simp only [Act.put, List.setIfInBounds_toArray, List.set_cons_zero, List.set_cons_succ]
            refine wpAnyH_ready (rs := [8]) (by kernel_rfl) (by simp) ?_
            refine AllReadyH.cons (by simp only [List.getElem?_toArray, List.getElem?_cons_succ, List.getElem?_cons_zero]; rfl) (fun K hK => ?_) AllReadyH.nil
            rw [if_pos (by rfl)]
            go_simp
            rw [show IntKind.i64.wrap (248 - (s7.at_ : Int)) = 248 - (s7.at_ : Int) from by rw [IntKind.wrap_i64]; omega]
            refine (skip_wr w.heap.size g g2 256 s7 (248 - (s7.at_ : Int)) _ (H7.out.step (below_drew (Below.refl _ _))).wr).mono ?_
            rintro e w8 ⟨rfl, hW8, hO8⟩
            have H8 := Aside0.mk ((H7.out.step (below_drew (Below.refl _ _))).writer hO8 hW8)
            clear hW8 hO8
            dsimp only
            refine hK.out _ _ trivial (fun hHeld => ?_)
            clear hK K
            try simp only [Act.put, List.setIfInBounds_toArray, List.set_cons_zero, List.set_cons_succ]
            refine wpAnyH_done (by kernel_rfl) ?_ _
            obtain ⟨s8, hs8⟩ : ∃ s8, skipS s7 (248 - (s7.at_ : Int)) = s8 := ⟨_, rfl⟩
            rw [hs8] at H8
            have hE : encP ge ph tg tx rt pg li xs = sealB (doneB (bytesS s8 tailL).sp (bytesS s8 tailL).xs) 252 := by unfold encP encW encW1; rw [hs5, hs7, hs8]
            have HE := Aside0.mk hE
            clear hE hs5 hs7 hs8 hle H7
            go_wp2_with (first | (go_at_call 24; refine (wbytes_any w.heap.size g g2 256 _ (some ⟨w8.heap.size, 0, none⟩) 4 4 tailL _ (H8.out.step ((Below.refl _ _).alloc (Nat.le_refl _) (.cells #[.int .u8 85, .int .u8 65, .int .u8 71, .int .u8 82] 5 (4, 5)))).wr (Bs.lit w8 w8.heap.size rfl #[.int .u8 85, .int .u8 65, .int .u8 71, .int .u8 82] 5 (4, 5) 4 4 tailL rfl rfl (by omega) (by omega) (by omega)) (H8.out.lit 4).1 (H8.out.lit 4).2).mono ?_; rintro e w9 ⟨rfl, hW, hO, _⟩; (have H9 := Aside0.mk ((H8.out.step ((Below.refl _ _).alloc (Nat.le_refl _) (.cells #[.int .u8 85, .int .u8 65, .int .u8 71, .int .u8 82] 5 (4, 5)))).writer hO hW)); clear hW hO) | (go_at_call 31; refine (done_any g _ _ _ _ _ _ w9 H9.out.wr.cur H9.out.wr.own.bs).mono ?_; rintro e wd ⟨A3, c3, rfl, hO, hB⟩; (have H10 := Aside0.mk (And.intro hO (below_then H9.out.bel H9.out.bel.size hB))); clear hO hB) | (go_at_call 32; refine (seal_any _ _ _ _ 252 wd H10.out.1.bs).mono ?_; rintro e we ⟨A4, c4, rfl, hO4, hB4⟩; (have H11 := Aside0.mk (And.intro hO4 hB4)); clear hO4 hB4))
            go_ret2
            refine ⟨below_then H10.out.2 H10.out.2.size H11.out.2, .inr ⟨trivial, A4, c4, ?_, ?_⟩⟩
            · rw [HE.out, sealB_length]
              rfl
            · rw [HE.out, sealB_length]
              exact H11.out.1.mono H10.out.2.size

end Go.Proofs.Ytenibcbodjkglaa
