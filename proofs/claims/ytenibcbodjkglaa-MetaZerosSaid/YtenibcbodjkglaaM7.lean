/- The walk of meta's read. -/
import Derived.Test.YtenibcbodjkglaaM4
import Derived.Test.YtenibcbodjkglaaG3
set_option linter.unusedVariables false
set_option linter.unusedSimpArgs false
namespace Go.Proofs.Ytenibcbodjkglaa
open Go.RowKit

/-- A reader's place, as it reads on. -/
structure RP where
  a : Nat
  sp : Bool
def gV (xs : List UInt8) (s : RP) (m : Int) : Int := getV xs.length s.a s.sp m xs
def gS (xs : List UInt8) (s : RP) (m : Int) : RP := ⟨getA xs.length s.a s.sp m xs, !getOk xs.length s.a s.sp m xs⟩
def rs0 : RP := ⟨4, false⟩
def rdGe (xs : List UInt8) : Int := gV xs rs0 1
def rs1 (xs : List UInt8) : RP := gS xs rs0 1
def rdPh (xs : List UInt8) : Int := gV xs (rs1 xs) 1
def rs2 (xs : List UInt8) : RP := gS xs (rs1 xs) 1
def rdTg (xs : List UInt8) : Int := gV xs (rs2 xs) 1
def rs3 (xs : List UInt8) : RP := gS xs (rs2 xs) 1
def rdLo (xs : List UInt8) : Int := gV xs (rs3 xs) 1
def rs4 (xs : List UInt8) : RP := gS xs (rs3 xs) 1
def rdWd (xs : List UInt8) : Int := if iwI (rdGe xs) < 1 then 1 else iwI (rdGe xs)
def rdTx (xs : List UInt8) : Int := gV xs (rs4 xs) (rdWd xs)
def rs5 (xs : List UInt8) : RP := gS xs (rs4 xs) (rdWd xs)
def rdRt (xs : List UInt8) : Int := gV xs (rs5 xs) (rdWd xs)
def rs6 (xs : List UInt8) : RP := gS xs (rs5 xs) (rdWd xs)
def rdPg (xs : List UInt8) : Int := gV xs (rs6 xs) (rdWd xs)
def rs7 (xs : List UInt8) : RP := gS xs (rs6 xs) (rdWd xs)
def rdLi (xs : List UInt8) : Int := gV xs (rs7 xs) (rdWd xs)
def rs8 (xs : List UInt8) : RP := gS xs (rs7 xs) (rdWd xs)
def rdCu (xs : List UInt8) : List UInt8 := if (rs8 xs).sp = false ∧ 0 ≤ rdLo xs ∧ (rs8 xs).a + (rdLo xs).toNat ≤ xs.length then (xs.drop (rs8 xs).a).take (rdLo xs).toNat else []
/-- The reader, and the meta as it fills, while read runs. -/
structure RW (w : World) (gr : Nat) (A1 : Option Addr) (c1 : Nat) (xs : List UInt8) (s : RP) (u : Array Value) (W : World) : Prop where
  cur : Cur W gr 86 A1 xs.length c1 s.a s.sp
  row : Bs W A1 xs.length c1 xs
  ne : ∀ ad, A1 = some ad → 0 < xs.length → ad.block ≠ gr ∧ ad.block ≠ w.heap.size + 1
  r0 : W.heap[w.heap.size]? = some (.cells #[.int .i64 0, .int .i64 0, .int .i64 0, .int .i64 0, .int .i64 0, .int .i64 0, .int .i64 0, .slice none 0 0] 26)
  r1 : W.heap[w.heap.size + 1]? = some (.cells u 26)
  bel : Below w.heap.size w W
  hi : w.heap.size + 1 < gr
theorem RW.step {w W W1 : World} {gr c1 : Nat} {A1 : Option Addr} {xs : List UInt8} {s : RP} {u : Array Value} (h : RW w gr A1 c1 xs s u W) (hB : Below W.heap.size W W1) : RW w gr A1 c1 xs s u W1 :=
  ⟨h.cur.below hB, h.row.below hB, h.ne, (hB.block _ (Array.getElem?_eq_some_iff.1 h.r0).1).trans h.r0, (hB.block _ (Array.getElem?_eq_some_iff.1 h.r1).1).trans h.r1, below_then h.bel h.bel.size hB, h.hi⟩
theorem RW.go {w W W1 : World} {gr c1 : Nat} {A1 : Option Addr} {xs : List UInt8} {s s1 : RP} {u : Array Value} (h : RW w gr A1 c1 xs s u W) (ho : OnlyB gr W W1) (hc : Cur W1 gr 86 A1 xs.length c1 s1.a s1.sp) : RW w gr A1 c1 xs s1 u W1 :=
  ⟨hc, h.row.only ho (fun ad e h0 => (h.ne ad e h0).1), h.ne, (ho.block _ (Array.getElem?_eq_some_iff.1 h.r0).1 (by have := h.hi; omega)).trans h.r0, (ho.block _ (Array.getElem?_eq_some_iff.1 h.r1).1 (by have := h.hi; omega)).trans h.r1, ho.below h.bel (by have := h.hi; omega) (Nat.le_refl _), h.hi⟩
theorem RW.set {w W : World} {gr c1 : Nat} {A1 : Option Addr} {xs : List UInt8} {s : RP} {u : Array Value} (h : RW w gr A1 c1 xs s u W) (j : Nat) (v : Value) : RW w gr A1 c1 xs s (u.setIfInBounds j v) (W.setCell ⟨w.heap.size + 1, j, none⟩ v) := by
  have ho := (OnlyB.refl (w.heap.size + 1) W).set j v
  exact ⟨h.cur.only ho (by have := h.hi; omega), h.row.only ho (fun ad e h0 => (h.ne ad e h0).2), h.ne, (ho.block _ (Array.getElem?_eq_some_iff.1 h.r0).1 (by omega)).trans h.r0, heap_setCell_same W _ j _ _ v h.r1, ho.below h.bel (by omega) (Nat.le_refl _), h.hi⟩

def rdHd (xs : List UInt8) : Nat → Array Value
  | 0 => #[.int .i64 (0), .int .i64 (0), .int .i64 (0), .int .i64 (0), .int .i64 (0), .int .i64 (0), .int .i64 (0), .slice none 0 0]
  | 1 => #[.int .i64 (rdGe xs), .int .i64 (0), .int .i64 (0), .int .i64 (0), .int .i64 (0), .int .i64 (0), .int .i64 (0), .slice none 0 0]
  | 2 => #[.int .i64 (rdGe xs), .int .i64 (rdPh xs), .int .i64 (0), .int .i64 (0), .int .i64 (0), .int .i64 (0), .int .i64 (0), .slice none 0 0]
  | _ => #[.int .i64 (rdGe xs), .int .i64 (rdPh xs), .int .i64 (rdTg xs), .int .i64 (0), .int .i64 (0), .int .i64 (0), .int .i64 (0), .slice none 0 0]
def rdNm (xs : List UInt8) : Nat → Array Value
  | 0 => #[.int .i64 (rdGe xs), .int .i64 (rdPh xs), .int .i64 (rdTg xs), .int .i64 (0), .int .i64 (0), .int .i64 (0), .int .i64 (0), .slice none 0 0]
  | 1 => #[.int .i64 (rdGe xs), .int .i64 (rdPh xs), .int .i64 (rdTg xs), .int .i64 (rdTx xs), .int .i64 (0), .int .i64 (0), .int .i64 (0), .slice none 0 0]
  | 2 => #[.int .i64 (rdGe xs), .int .i64 (rdPh xs), .int .i64 (rdTg xs), .int .i64 (rdTx xs), .int .i64 (rdRt xs), .int .i64 (0), .int .i64 (0), .slice none 0 0]
  | 3 => #[.int .i64 (rdGe xs), .int .i64 (rdPh xs), .int .i64 (rdTg xs), .int .i64 (rdTx xs), .int .i64 (rdRt xs), .int .i64 (rdPg xs), .int .i64 (0), .slice none 0 0]
  | _ => #[.int .i64 (rdGe xs), .int .i64 (rdPh xs), .int .i64 (rdTg xs), .int .i64 (rdTx xs), .int .i64 (rdRt xs), .int .i64 (rdPg xs), .int .i64 (rdLi xs), .slice none 0 0]
def rsH (xs : List UInt8) : Nat → RP
  | 0 => rs0
  | 1 => rs1 xs
  | 2 => rs2 xs
  | _ => rs3 xs
def rsN (xs : List UInt8) : Nat → RP
  | 0 => rs4 xs
  | 1 => rs5 xs
  | 2 => rs6 xs
  | 3 => rs7 xs
  | _ => rs8 xs

theorem row8_set {W : World} {g : Nat} {T : TypeId} {x0 x1 x2 x3 x4 x5 x6 x7 : Value} (a b c d e f k i : Value) (h : W.heap[g]? = some (.cells #[x0, x1, x2, x3, x4, x5, x6, x7] T)) :
    ((((((((W.setCell ⟨g, 0, none⟩ a).setCell ⟨g, 1, none⟩ b).setCell ⟨g, 2, none⟩ c).setCell ⟨g, 3, none⟩ d).setCell ⟨g, 4, none⟩ e).setCell ⟨g, 5, none⟩ f).setCell ⟨g, 6, none⟩ k).setCell ⟨g, 7, none⟩ i).heap[g]? = some (.cells #[a, b, c, d, e, f, k, i] T) := by
  have h1 : (W.setCell ⟨g, 0, none⟩ a).heap[g]? = some (.cells #[a, x1, x2, x3, x4, x5, x6, x7] T) := heap_setCell_same W g 0 _ _ a h
  have h2 : (_root_.Go.World.setCell _ ⟨g, 1, none⟩ b).heap[g]? = some (.cells #[a, b, x2, x3, x4, x5, x6, x7] T) := heap_setCell_same _ g 1 _ _ b h1
  have h3 : (_root_.Go.World.setCell _ ⟨g, 2, none⟩ c).heap[g]? = some (.cells #[a, b, c, x3, x4, x5, x6, x7] T) := heap_setCell_same _ g 2 _ _ c h2
  have h4 : (_root_.Go.World.setCell _ ⟨g, 3, none⟩ d).heap[g]? = some (.cells #[a, b, c, d, x4, x5, x6, x7] T) := heap_setCell_same _ g 3 _ _ d h3
  have h5 : (_root_.Go.World.setCell _ ⟨g, 4, none⟩ e).heap[g]? = some (.cells #[a, b, c, d, e, x5, x6, x7] T) := heap_setCell_same _ g 4 _ _ e h4
  have h6 : (_root_.Go.World.setCell _ ⟨g, 5, none⟩ f).heap[g]? = some (.cells #[a, b, c, d, e, f, x6, x7] T) := heap_setCell_same _ g 5 _ _ f h5
  have h7 : (_root_.Go.World.setCell _ ⟨g, 6, none⟩ k).heap[g]? = some (.cells #[a, b, c, d, e, f, k, x7] T) := heap_setCell_same _ g 6 _ _ k h6
  exact heap_setCell_same _ g 7 _ _ i h7
theorem mload {W : World} {g : Nat} {a b c d e f k i : Value} (h : W.heap[g]? = some (.cells #[a, b, c, d, e, f, k, i] 26)) : (loadVar 26 ⟨g, 0, none⟩).run Try.prog W = .ok (.agg #[a, b, c, d, e, f, k, i]) W :=
  run_loadVar_row W g 26 26 _ (0, 0) _ h Try.underlying26 rfl (by kernel_rfl)
theorem rdCu_eq {xs ys : List UInt8} (h : (((rs8 xs).sp = true ∨ rdLo xs < 0 ∨ (xs.length : Int) - (rs8 xs).a < rdLo xs) ∧ ys = []) ∨ ((rs8 xs).sp = false ∧ 0 ≤ rdLo xs ∧ (rs8 xs).a + (rdLo xs).toNat ≤ xs.length ∧ ys = (xs.drop (rs8 xs).a).take (rdLo xs).toNat)) : ys = rdCu xs := by
  unfold rdCu
  rcases h with ⟨h1, h2⟩ | ⟨h1, h2, h3, h4⟩
  · rw [h2, if_neg]
    rintro ⟨k1, k2, k3⟩
    rcases h1 with h1 | h1 | h1
    · exact Bool.noConfusion (k1.symm.trans h1)
    · omega
    · omega
  · rw [h4, if_pos ⟨h1, h2, h3⟩]
set_option maxHeartbeats 4000000 in
set_option maxRecDepth 100000 in
theorem mread_any (A : Option Addr) (c : Nat) (xs : List UInt8) (w : World) (hb : Bs w A xs.length c xs) (h256 : xs.length = 256) :
    Calls Try.prog 41 #[.slice A xs.length c] w fun e w' => Below w.heap.size w w' ∧ ∃ A' c', e = .returned (.agg #[.int .i64 (rdGe xs), .int .i64 (rdPh xs), .int .i64 (rdTg xs), .int .i64 (rdTx xs), .int .i64 (rdRt xs), .int .i64 (rdPg xs), .int .i64 (rdLi xs), .slice A' (rdCu xs).length c']) ∧ Ow w' w.heap.size A' (rdCu xs).length c' (rdCu xs) := by
  have HX := Aside0.mk hb
  have HL := Aside0.mk h256
  clear hb h256
  go_enter Try.func41, Try.ntmps41
  go_wp2_with (first
    | (go_at_call 54; refine (newReader_any A xs.length c xs _ ((HX.out.alloc _).alloc _)).mono ?_; rintro e w1 ⟨gr, A1, c1, rfl, hgr, hne, hc, hO, hB⟩; (have H1 := Aside0.mk (show RW w gr A1 c1 xs ⟨0, false⟩ #[.int .i64 0, .int .i64 0, .int .i64 0, .int .i64 0, .int .i64 0, .int .i64 0, .int .i64 0, .slice none 0 0] w1 from by
        have r1 := heap_alloc_new (w.alloc (.cells #[.int .i64 0, .int .i64 0, .int .i64 0, .int .i64 0, .int .i64 0, .int .i64 0, .int .i64 0, .slice none 0 0] 26)) (.cells #[.int .i64 0, .int .i64 0, .int .i64 0, .int .i64 0, .int .i64 0, .int .i64 0, .int .i64 0, .slice none 0 0] 26)
        simp only [World.size_alloc] at r1 hgr hB hO
        refine ⟨hc, hO.bs, fun ad e h0 => ⟨hne ad e h0, ?_⟩, (hB.block _ (by omega)).trans ((Below.heap_alloc _ _ _ (by simp)).trans (heap_alloc_new w _)), (hB.block _ (by omega)).trans r1, below_then (((Below.refl _ _).alloc (Nat.le_refl _) _).alloc (by simp) _) (by simp; omega) (by simpa using hB), by omega⟩
        obtain ⟨k, e1, e2, _⟩ := hO.head h0
        rw [e1] at e
        injection e with e
        subst e
        exact (show k ≠ w.heap.size + 1 by omega))); clear hgr hne hc hO hB)
    | (go_at_call 29; refine (skip_any gr _ _ _ _ _ _ 4 w1 H1.out.cur).mono ?_; rintro e w2 ⟨rfl, ho, _, ⟨q, hc⟩ | ⟨q1, q2, q3, hc⟩⟩ <;> (first | (have q4 := (show ¬ (false = true ∨ (4 : Int) < 0 ∨ (xs.length : Int) - (0 : Nat) < 4) from by rw [HL.out]; decide) q; exact q4.elim) | skip); (have H2 := Aside0.mk (show RW w gr A1 c1 xs rs0 #[.int .i64 0, .int .i64 0, .int .i64 0, .int .i64 0, .int .i64 0, .int .i64 0, .int .i64 0, .slice none 0 0] w2 from H1.out.go ho hc)); clear ho hc q1 q2 q3)
    | (go_at_call 25; refine (heads_any (w.heap.size + 1) w2).mono ?_; rintro e w3 ⟨rfl, hB⟩; (have H3 := Aside0.mk (H2.out.step hB)); clear hB))
  go_loopg [17] 3 (fun k v wr => ∃ j : Nat, Aside (k + j = 3) ∧ v = .int .i64 (j : Int) ∧ Aside0 (RW w gr A1 c1 xs (rsH xs j) (rdHd xs j) wr))
  case atStart => exact ⟨0, rfl, rfl, H3⟩
  case round =>
    obtain ⟨j, hk, rfl, hI⟩ := hrel
    have hjb : j ≤ 3 := by have := hk.out; omega
    rcases (show j = 0 ∨ j = 1 ∨ j = 2 ∨ j = 3 by omega) with rfl | rfl | rfl | rfl
    · have ix := hix0 (w.heap.size + 1)
      go_wp2_with (go_at_call 55; refine (get_any gr A1 _ c1 _ _ xs 1 wr hI.out.cur hI.out.row (fun ad e h0 => (hI.out.ne ad e h0).1)).mono ?_; rintro e w5 ⟨rfl, ho, hc⟩; (have H5 := Aside0.mk (hI.out.go (s1 := gS xs (rsH xs 0) 1) ho hc)); clear ho hc; obtain ⟨z0, z1, z2, z3, z4, z5, z6, z7⟩ := row8_cells H5.out.r1; (have ft : ∀ j, w5.frozen? ⟨w.heap.size + 1, j, none⟩ = false := fun j => by simp [World.frozen?, H5.out.r1]))
      go_roundg (3 - (0 + 1))
      case measure => have := hk.out; omega
      case rel => exact ⟨0 + 1, rfl, by go_num, ⟨H5.out.set 0 _⟩⟩
    · have ix := hix1 (w.heap.size + 1)
      go_wp2_with (go_at_call 55; refine (get_any gr A1 _ c1 _ _ xs 1 wr hI.out.cur hI.out.row (fun ad e h0 => (hI.out.ne ad e h0).1)).mono ?_; rintro e w5 ⟨rfl, ho, hc⟩; (have H5 := Aside0.mk (hI.out.go (s1 := gS xs (rsH xs 1) 1) ho hc)); clear ho hc; obtain ⟨z0, z1, z2, z3, z4, z5, z6, z7⟩ := row8_cells H5.out.r1; (have ft : ∀ j, w5.frozen? ⟨w.heap.size + 1, j, none⟩ = false := fun j => by simp [World.frozen?, H5.out.r1]))
      go_roundg (3 - (1 + 1))
      case measure => have := hk.out; omega
      case rel => exact ⟨1 + 1, rfl, by go_num, ⟨H5.out.set 1 _⟩⟩
    · have ix := hix2 (w.heap.size + 1)
      go_wp2_with (go_at_call 55; refine (get_any gr A1 _ c1 _ _ xs 1 wr hI.out.cur hI.out.row (fun ad e h0 => (hI.out.ne ad e h0).1)).mono ?_; rintro e w5 ⟨rfl, ho, hc⟩; (have H5 := Aside0.mk (hI.out.go (s1 := gS xs (rsH xs 2) 1) ho hc)); clear ho hc; obtain ⟨z0, z1, z2, z3, z4, z5, z6, z7⟩ := row8_cells H5.out.r1; (have ft : ∀ j, w5.frozen? ⟨w.heap.size + 1, j, none⟩ = false := fun j => by simp [World.frozen?, H5.out.r1]))
      go_roundg (3 - (2 + 1))
      case measure => have := hk.out; omega
      case rel => exact ⟨2 + 1, rfl, by go_num, ⟨H5.out.set 2 _⟩⟩
    · clear hk hjb
      generalize wr = wq at hI ⊢
      go_wp2_with (first | (go_at_call 55; refine (get_any gr A1 _ c1 _ _ xs 1 wq hI.out.cur hI.out.row (fun ad e h0 => (hI.out.ne ad e h0).1)).mono ?_; rintro e w5 ⟨rfl, ho, hc⟩; (have H5 := Aside0.mk (hI.out.go (s1 := gS xs (rsH xs 3) 1) ho hc)); clear ho hc) | (go_at_call 27; refine (numbers_any (w.heap.size + 1) w5).mono ?_; rintro e w6 ⟨rfl, hB⟩; (have H6 := Aside0.mk (H5.out.step hB)); clear hB))
      go_loopg [28] 4 (fun k v wr => ∃ j : Nat, Aside (k + j = 4) ∧ v = .int .i64 (j : Int) ∧ Aside0 (RW w gr A1 c1 xs (rsN xs j) (rdNm xs j) wr))
      case atStart => exact ⟨0, rfl, rfl, H6⟩
      case round =>
        obtain ⟨j, hk, rfl, hI⟩ := hrel
        have hjb : j ≤ 4 := by have := hk.out; omega
        rcases (show j = 0 ∨ j = 1 ∨ j = 2 ∨ j = 3 ∨ j = 4 by omega) with rfl | rfl | rfl | rfl | rfl
        · have ix := nix0 (w.heap.size + 1)
          obtain ⟨z0, z1, z2, z3, z4, z5, z6, z7⟩ := row8_cells hI.out.r1
          go_wp2_with (first | (go_at_call 28; refine (idWidth_any (rdGe xs) _).mono ?_; rintro e w7 ⟨rfl, hB⟩; (have H7 := Aside0.mk (hI.out.step hB)); clear hB z0 z1 z2 z3 z4 z5 z6 z7) | (go_at_call 55; (first | rw [show (#[Value.pointer (some ⟨gr, 0, none⟩), Value.int IntKind.i64 (iwI (rdGe xs))] : Array Value) = #[Value.pointer (some ⟨gr, 0, none⟩), Value.int IntKind.i64 (rdWd xs)] from by unfold rdWd; rw [if_neg (by omega)]] | rw [show (#[Value.pointer (some ⟨gr, 0, none⟩), Value.int IntKind.i64 1] : Array Value) = #[Value.pointer (some ⟨gr, 0, none⟩), Value.int IntKind.i64 (rdWd xs)] from by unfold rdWd; rw [if_pos (by assumption)]]); refine (get_any gr A1 _ c1 _ _ xs (rdWd xs) w7 H7.out.cur H7.out.row (fun ad e h0 => (H7.out.ne ad e h0).1)).mono ?_; rintro e w8 ⟨rfl, ho, hc⟩; (have H8 := Aside0.mk (H7.out.go (s1 := gS xs (rsN xs 0) (rdWd xs)) ho hc)); clear ho hc; obtain ⟨z0, z1, z2, z3, z4, z5, z6, z7⟩ := row8_cells H8.out.r1; (have ft : ∀ j, w8.frozen? ⟨w.heap.size + 1, j, none⟩ = false := fun j => by simp [World.frozen?, H8.out.r1])))
          · go_roundg (4 - (0 + 1))
            case measure => have := hk.out; omega
            case rel => exact ⟨0 + 1, rfl, by go_num, ⟨H8.out.set 3 _⟩⟩
          · go_roundg (4 - (0 + 1))
            case measure => have := hk.out; omega
            case rel => exact ⟨0 + 1, rfl, by go_num, ⟨H8.out.set 3 _⟩⟩
        · have ix := nix1 (w.heap.size + 1)
          obtain ⟨z0, z1, z2, z3, z4, z5, z6, z7⟩ := row8_cells hI.out.r1
          go_wp2_with (first | (go_at_call 28; refine (idWidth_any (rdGe xs) _).mono ?_; rintro e w7 ⟨rfl, hB⟩; (have H7 := Aside0.mk (hI.out.step hB)); clear hB z0 z1 z2 z3 z4 z5 z6 z7) | (go_at_call 55; (first | rw [show (#[Value.pointer (some ⟨gr, 0, none⟩), Value.int IntKind.i64 (iwI (rdGe xs))] : Array Value) = #[Value.pointer (some ⟨gr, 0, none⟩), Value.int IntKind.i64 (rdWd xs)] from by unfold rdWd; rw [if_neg (by omega)]] | rw [show (#[Value.pointer (some ⟨gr, 0, none⟩), Value.int IntKind.i64 1] : Array Value) = #[Value.pointer (some ⟨gr, 0, none⟩), Value.int IntKind.i64 (rdWd xs)] from by unfold rdWd; rw [if_pos (by assumption)]]); refine (get_any gr A1 _ c1 _ _ xs (rdWd xs) w7 H7.out.cur H7.out.row (fun ad e h0 => (H7.out.ne ad e h0).1)).mono ?_; rintro e w8 ⟨rfl, ho, hc⟩; (have H8 := Aside0.mk (H7.out.go (s1 := gS xs (rsN xs 1) (rdWd xs)) ho hc)); clear ho hc; obtain ⟨z0, z1, z2, z3, z4, z5, z6, z7⟩ := row8_cells H8.out.r1; (have ft : ∀ j, w8.frozen? ⟨w.heap.size + 1, j, none⟩ = false := fun j => by simp [World.frozen?, H8.out.r1])))
          · go_roundg (4 - (1 + 1))
            case measure => have := hk.out; omega
            case rel => exact ⟨1 + 1, rfl, by go_num, ⟨H8.out.set 4 _⟩⟩
          · go_roundg (4 - (1 + 1))
            case measure => have := hk.out; omega
            case rel => exact ⟨1 + 1, rfl, by go_num, ⟨H8.out.set 4 _⟩⟩
        · have ix := nix2 (w.heap.size + 1)
          obtain ⟨z0, z1, z2, z3, z4, z5, z6, z7⟩ := row8_cells hI.out.r1
          go_wp2_with (first | (go_at_call 28; refine (idWidth_any (rdGe xs) _).mono ?_; rintro e w7 ⟨rfl, hB⟩; (have H7 := Aside0.mk (hI.out.step hB)); clear hB z0 z1 z2 z3 z4 z5 z6 z7) | (go_at_call 55; (first | rw [show (#[Value.pointer (some ⟨gr, 0, none⟩), Value.int IntKind.i64 (iwI (rdGe xs))] : Array Value) = #[Value.pointer (some ⟨gr, 0, none⟩), Value.int IntKind.i64 (rdWd xs)] from by unfold rdWd; rw [if_neg (by omega)]] | rw [show (#[Value.pointer (some ⟨gr, 0, none⟩), Value.int IntKind.i64 1] : Array Value) = #[Value.pointer (some ⟨gr, 0, none⟩), Value.int IntKind.i64 (rdWd xs)] from by unfold rdWd; rw [if_pos (by assumption)]]); refine (get_any gr A1 _ c1 _ _ xs (rdWd xs) w7 H7.out.cur H7.out.row (fun ad e h0 => (H7.out.ne ad e h0).1)).mono ?_; rintro e w8 ⟨rfl, ho, hc⟩; (have H8 := Aside0.mk (H7.out.go (s1 := gS xs (rsN xs 2) (rdWd xs)) ho hc)); clear ho hc; obtain ⟨z0, z1, z2, z3, z4, z5, z6, z7⟩ := row8_cells H8.out.r1; (have ft : ∀ j, w8.frozen? ⟨w.heap.size + 1, j, none⟩ = false := fun j => by simp [World.frozen?, H8.out.r1])))
          · go_roundg (4 - (2 + 1))
            case measure => have := hk.out; omega
            case rel => exact ⟨2 + 1, rfl, by go_num, ⟨H8.out.set 5 _⟩⟩
          · go_roundg (4 - (2 + 1))
            case measure => have := hk.out; omega
            case rel => exact ⟨2 + 1, rfl, by go_num, ⟨H8.out.set 5 _⟩⟩
        · have ix := nix3 (w.heap.size + 1)
          obtain ⟨z0, z1, z2, z3, z4, z5, z6, z7⟩ := row8_cells hI.out.r1
          go_wp2_with (first | (go_at_call 28; refine (idWidth_any (rdGe xs) _).mono ?_; rintro e w7 ⟨rfl, hB⟩; (have H7 := Aside0.mk (hI.out.step hB)); clear hB z0 z1 z2 z3 z4 z5 z6 z7) | (go_at_call 55; (first | rw [show (#[Value.pointer (some ⟨gr, 0, none⟩), Value.int IntKind.i64 (iwI (rdGe xs))] : Array Value) = #[Value.pointer (some ⟨gr, 0, none⟩), Value.int IntKind.i64 (rdWd xs)] from by unfold rdWd; rw [if_neg (by omega)]] | rw [show (#[Value.pointer (some ⟨gr, 0, none⟩), Value.int IntKind.i64 1] : Array Value) = #[Value.pointer (some ⟨gr, 0, none⟩), Value.int IntKind.i64 (rdWd xs)] from by unfold rdWd; rw [if_pos (by assumption)]]); refine (get_any gr A1 _ c1 _ _ xs (rdWd xs) w7 H7.out.cur H7.out.row (fun ad e h0 => (H7.out.ne ad e h0).1)).mono ?_; rintro e w8 ⟨rfl, ho, hc⟩; (have H8 := Aside0.mk (H7.out.go (s1 := gS xs (rsN xs 3) (rdWd xs)) ho hc)); clear ho hc; obtain ⟨z0, z1, z2, z3, z4, z5, z6, z7⟩ := row8_cells H8.out.r1; (have ft : ∀ j, w8.frozen? ⟨w.heap.size + 1, j, none⟩ = false := fun j => by simp [World.frozen?, H8.out.r1])))
          · go_roundg (4 - (3 + 1))
            case measure => have := hk.out; omega
            case rel => exact ⟨3 + 1, rfl, by go_num, ⟨H8.out.set 6 _⟩⟩
          · go_roundg (4 - (3 + 1))
            case measure => have := hk.out; omega
            case rel => exact ⟨3 + 1, rfl, by go_num, ⟨H8.out.set 6 _⟩⟩
        · clear hk hjb
          generalize wr = wp at hI ⊢
          go_wp2_with (go_at_call 56; refine (rbytes_any w.heap.size gr A1 _ c1 _ _ xs (rdLo xs) wp hI.out.cur hI.out.row (fun ad e h0 => (hI.out.ne ad e h0).1)).mono ?_; rintro e w9 ⟨A9, n9, c9, ys, rfl, hO, ho, hc⟩; (have hys := rdCu_eq (hc.imp (fun h => ⟨h.1, h.2.2⟩) (fun h => ⟨h.1, h.2.1, h.2.2.1, h.2.2.2.2⟩))); subst hys; (have hn9 : n9 = (rdCu xs).length := hO.len.symm); subst hn9; (have r1 := (ho.block _ (Array.getElem?_eq_some_iff.1 hI.out.r1).1 (by have := hI.out.hi; omega)).trans hI.out.r1); (have r0 := (ho.block _ (Array.getElem?_eq_some_iff.1 hI.out.r0).1 (by have := hI.out.hi; omega)).trans hI.out.r0); obtain ⟨z0, z1, z2, z3, z4, z5, z6, z7⟩ := row8_cells r1; (have ft : ∀ j, w9.frozen? ⟨w.heap.size + 1, j, none⟩ = false := fun j => by simp [World.frozen?, r1]); obtain ⟨W10, hW10⟩ : ∃ W10, w9.setCell ⟨w.heap.size + 1, 7, none⟩ (.slice A9 (rdCu xs).length c9) = W10 := ⟨_, rfl⟩; (have q1 : W10.heap[w.heap.size + 1]? = some (.cells #[.int .i64 (rdGe xs), .int .i64 (rdPh xs), .int .i64 (rdTg xs), .int .i64 (rdTx xs), .int .i64 (rdRt xs), .int .i64 (rdPg xs), .int .i64 (rdLi xs), .slice A9 (rdCu xs).length c9] 26) := by rw [← hW10]; exact heap_setCell_same w9 _ 7 _ _ _ r1); (have q0 : W10.heap[w.heap.size]? = some (.cells #[.int .i64 0, .int .i64 0, .int .i64 0, .int .i64 0, .int .i64 0, .int .i64 0, .int .i64 0, .slice none 0 0] 26) := by rw [← hW10]; exact (Below.heap_setCell _ _ _ _ (show w.heap.size ≠ w.heap.size + 1 by omega)).trans r0); obtain ⟨y0, y1, y2, y3, y4, y5, y6, y7⟩ := row8_cells q1; obtain ⟨d0, d1, d2, d3, d4, d5, d6, d7⟩ := row8_cells q0; (have fd : ∀ j, W10.frozen? ⟨w.heap.size, j, none⟩ = false := fun j => by simp [World.frozen?, q0]); (have HZ := Aside0.mk (And.intro hO (And.intro (ho.below hI.out.bel (by have := hI.out.hi; omega) (Nat.le_refl _)) (And.intro q0 (And.intro hW10 hI.out.bel.size))))); clear hO ho hc r0 r1 q0 q1)
          have hLd := mload (row8_set (.int .i64 (rdGe xs)) (.int .i64 (rdPh xs)) (.int .i64 (rdTg xs)) (.int .i64 (rdTx xs)) (.int .i64 (rdRt xs)) (.int .i64 (rdPg xs)) (.int .i64 (rdLi xs)) (.slice A9 (rdCu xs).length c9) HZ.out.2.2.1)
          refine bodyPost_ret (v := .agg #[.int .i64 (rdGe xs), .int .i64 (rdPh xs), .int .i64 (rdTg xs), .int .i64 (rdTx xs), .int .i64 (rdRt xs), .int .i64 (rdPg xs), .int .i64 (rdLi xs), .slice A9 (rdCu xs).length c9]) (by simp [results, Try.results41, asAddr, hLd]) rfl ⟨?_, A9, c9, rfl, ?_⟩
          · have hb10 : Below w.heap.size w W10 := by rw [← HZ.out.2.2.2.1]; exact below_set _ HZ.out.2.1 (by omega)
            exact below_set _ (below_set _ (below_set _ (below_set _ (below_set _ (below_set _ (below_set _ (below_set _ hb10 (Nat.le_refl _)) (Nat.le_refl _)) (Nat.le_refl _)) (Nat.le_refl _)) (Nat.le_refl _)) (Nat.le_refl _)) (Nat.le_refl _)) (Nat.le_refl _)
          · have hlo : w.heap.size + 1 < wp.heap.size := (Array.getElem?_eq_some_iff.1 hI.out.r1).1
            have ho10 := HZ.out.1.setc (g := w.heap.size + 1) (j := 7) (.slice A9 (rdCu xs).length c9) hlo
            rw [HZ.out.2.2.2.1] at ho10
            exact ((((((((ho10.setc _ (by omega)).setc _ (by omega)).setc _ (by omega)).setc _ (by omega)).setc _ (by omega)).setc _ (by omega)).setc _ (by omega)).setc _ (by omega)).mono (by omega)

end Go.Proofs.Ytenibcbodjkglaa
