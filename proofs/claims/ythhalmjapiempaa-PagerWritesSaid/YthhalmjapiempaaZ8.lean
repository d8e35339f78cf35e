/- The walk of meta's read. The walk of meta's Decode. -/
import Derived.Test.YthhalmjapiempaaZ6
import Derived.Test.YthhalmjapiempaaZ4
import Derived.Lib.SmallJoins
set_option linter.unusedVariables false
set_option linter.unusedSimpArgs false
namespace Go.Proofs.Ythhalmjapiempaa
open Go.RowKit

/-- A reader's place, as it reads on. -/
structure RP where
  a : Nat
  sp : Bool
def gV (xs : List UInt8) (s : RP) (m : Int) : Int := getV xs.length s.a s.sp m xs
def gS (xs : List UInt8) (s : RP) (m : Int) : RP := ⟨getA xs.length s.a s.sp m xs, !getOk xs.length s.a s.sp m xs⟩
def rs0 : RP := ⟨4, false⟩
def rdGe (xs : List UInt8) : Int := gV xs rs0 1
def rs1 (xs : List UInt8) : RP := gS xs rs0 1
def rdPh (xs : List UInt8) : Int := gV xs (rs1 xs) 1
def rs2 (xs : List UInt8) : RP := gS xs (rs1 xs) 1
def rdTg (xs : List UInt8) : Int := gV xs (rs2 xs) 1
def rs3 (xs : List UInt8) : RP := gS xs (rs2 xs) 1
def rdLo (xs : List UInt8) : Int := gV xs (rs3 xs) 1
def rs4 (xs : List UInt8) : RP := gS xs (rs3 xs) 1
def rdWd (xs : List UInt8) : Int := if iwI (rdGe xs) < 1 then 1 else iwI (rdGe xs)
def rdTx (xs : List UInt8) : Int := gV xs (rs4 xs) (rdWd xs)
def rs5 (xs : List UInt8) : RP := gS xs (rs4 xs) (rdWd xs)
def rdRt (xs : List UInt8) : Int := gV xs (rs5 xs) (rdWd xs)
def rs6 (xs : List UInt8) : RP := gS xs (rs5 xs) (rdWd xs)
def rdPg (xs : List UInt8) : Int := gV xs (rs6 xs) (rdWd xs)
def rs7 (xs : List UInt8) : RP := gS xs (rs6 xs) (rdWd xs)
def rdLi (xs : List UInt8) : Int := gV xs (rs7 xs) (rdWd xs)
def rs8 (xs : List UInt8) : RP := gS xs (rs7 xs) (rdWd xs)
def rdCu (xs : List UInt8) : List UInt8 := if (rs8 xs).sp = false ∧ 0 ≤ rdLo xs ∧ (rs8 xs).a + (rdLo xs).toNat ≤ xs.length then (xs.drop (rs8 xs).a).take (rdLo xs).toNat else []
/-- The reader, and the meta as it fills, while read runs. -/
structure RW (w : World) (gr : Nat) (A1 : Option Addr) (c1 : Nat) (xs : List UInt8) (s : RP) (u : Array Value) (W : World) : Prop where
  cur : Cur W gr 167 A1 xs.length c1 s.a s.sp
  row : Bs W A1 xs.length c1 xs
  ne : ∀ ad, A1 = some ad → 0 < xs.length → ad.block ≠ gr ∧ ad.block ≠ w.heap.size + 1
  r0 : W.heap[w.heap.size]? = some (.cells #[.int .i64 0, .int .i64 0, .int .i64 0, .int .i64 0, .int .i64 0, .int .i64 0, .int .i64 0, .slice none 0 0] 36)
  r1 : W.heap[w.heap.size + 1]? = some (.cells u 36)
  bel : Below w.heap.size w W
  hi : w.heap.size + 1 < gr
theorem RW.step {w W W1 : World} {gr c1 : Nat} {A1 : Option Addr} {xs : List UInt8} {s : RP} {u : Array Value} (h : RW w gr A1 c1 xs s u W) (hB : Below W.heap.size W W1) : RW w gr A1 c1 xs s u W1 :=
  ⟨h.cur.below hB, h.row.below hB, h.ne, (hB.block _ (Array.getElem?_eq_some_iff.1 h.r0).1).trans h.r0, (hB.block _ (Array.getElem?_eq_some_iff.1 h.r1).1).trans h.r1, below_then h.bel h.bel.size hB, h.hi⟩
theorem RW.go {w W W1 : World} {gr c1 : Nat} {A1 : Option Addr} {xs : List UInt8} {s s1 : RP} {u : Array Value} (h : RW w gr A1 c1 xs s u W) (ho : OnlyB gr W W1) (hc : Cur W1 gr 167 A1 xs.length c1 s1.a s1.sp) : RW w gr A1 c1 xs s1 u W1 :=
  ⟨hc, h.row.only ho (fun ad e h0 => (h.ne ad e h0).1), h.ne, (ho.block _ (Array.getElem?_eq_some_iff.1 h.r0).1 (by have := h.hi; omega)).trans h.r0, (ho.block _ (Array.getElem?_eq_some_iff.1 h.r1).1 (by have := h.hi; omega)).trans h.r1, ho.below h.bel (by have := h.hi; omega) (Nat.le_refl _), h.hi⟩
theorem RW.set {w W : World} {gr c1 : Nat} {A1 : Option Addr} {xs : List UInt8} {s : RP} {u : Array Value} (h : RW w gr A1 c1 xs s u W) (j : Nat) (v : Value) : RW w gr A1 c1 xs s (u.setIfInBounds j v) (W.setCell ⟨w.heap.size + 1, j, none⟩ v) := by
  have ho := (OnlyB.refl (w.heap.size + 1) W).set j v
  exact ⟨h.cur.only ho (by have := h.hi; omega), h.row.only ho (fun ad e h0 => (h.ne ad e h0).2), h.ne, (ho.block _ (Array.getElem?_eq_some_iff.1 h.r0).1 (by omega)).trans h.r0, heap_setCell_same W _ j _ _ v h.r1, ho.below h.bel (by omega) (Nat.le_refl _), h.hi⟩

def rdHd (xs : List UInt8) : Nat → Array Value
  | 0 => #[.int .i64 (0), .int .i64 (0), .int .i64 (0), .int .i64 (0), .int .i64 (0), .int .i64 (0), .int .i64 (0), .slice none 0 0]
  | 1 => #[.int .i64 (rdGe xs), .int .i64 (0), .int .i64 (0), .int .i64 (0), .int .i64 (0), .int .i64 (0), .int .i64 (0), .slice none 0 0]
  | 2 => #[.int .i64 (rdGe xs), .int .i64 (rdPh xs), .int .i64 (0), .int .i64 (0), .int .i64 (0), .int .i64 (0), .int .i64 (0), .slice none 0 0]
  | _ => #[.int .i64 (rdGe xs), .int .i64 (rdPh xs), .int .i64 (rdTg xs), .int .i64 (0), .int .i64 (0), .int .i64 (0), .int .i64 (0), .slice none 0 0]
def rdNm (xs : List UInt8) : Nat → Array Value
  | 0 => #[.int .i64 (rdGe xs), .int .i64 (rdPh xs), .int .i64 (rdTg xs), .int .i64 (0), .int .i64 (0), .int .i64 (0), .int .i64 (0), .slice none 0 0]
  | 1 => #[.int .i64 (rdGe xs), .int .i64 (rdPh xs), .int .i64 (rdTg xs), .int .i64 (rdTx xs), .int .i64 (0), .int .i64 (0), .int .i64 (0), .slice none 0 0]
  | 2 => #[.int .i64 (rdGe xs), .int .i64 (rdPh xs), .int .i64 (rdTg xs), .int .i64 (rdTx xs), .int .i64 (rdRt xs), .int .i64 (0), .int .i64 (0), .slice none 0 0]
  | 3 => #[.int .i64 (rdGe xs), .int .i64 (rdPh xs), .int .i64 (rdTg xs), .int .i64 (rdTx xs), .int .i64 (rdRt xs), .int .i64 (rdPg xs), .int .i64 (0), .slice none 0 0]
  | _ => #[.int .i64 (rdGe xs), .int .i64 (rdPh xs), .int .i64 (rdTg xs), .int .i64 (rdTx xs), .int .i64 (rdRt xs), .int .i64 (rdPg xs), .int .i64 (rdLi xs), .slice none 0 0]
def rsH (xs : List UInt8) : Nat → RP
  | 0 => rs0
  | 1 => rs1 xs
  | 2 => rs2 xs
  | _ => rs3 xs
def rsN (xs : List UInt8) : Nat → RP
  | 0 => rs4 xs
  | 1 => rs5 xs
  | 2 => rs6 xs
  | 3 => rs7 xs
  | _ => rs8 xs

theorem row8_set {W : World} {g : Nat} {T : TypeId} {x0 x1 x2 x3 x4 x5 x6 x7 : Value} (a b c d e f k i : Value) (h : W.heap[g]? = some (.cells #[x0, x1, x2, x3, x4, x5, x6, x7] T)) :
    ((((((((W.setCell ⟨g, 0, none⟩ a).setCell ⟨g, 1, none⟩ b).setCell ⟨g, 2, none⟩ c).setCell ⟨g, 3, none⟩ d).setCell ⟨g, 4, none⟩ e).setCell ⟨g, 5, none⟩ f).setCell ⟨g, 6, none⟩ k).setCell ⟨g, 7, none⟩ i).heap[g]? = some (.cells #[a, b, c, d, e, f, k, i] T) := by
  have h1 : (W.setCell ⟨g, 0, none⟩ a).heap[g]? = some (.cells #[a, x1, x2, x3, x4, x5, x6, x7] T) := heap_setCell_same W g 0 _ _ a h
  have h2 : (_root_.Go.World.setCell _ ⟨g, 1, none⟩ b).heap[g]? = some (.cells #[a, b, x2, x3, x4, x5, x6, x7] T) := heap_setCell_same _ g 1 _ _ b h1
  have h3 : (_root_.Go.World.setCell _ ⟨g, 2, none⟩ c).heap[g]? = some (.cells #[a, b, c, x3, x4, x5, x6, x7] T) := heap_setCell_same _ g 2 _ _ c h2
  have h4 : (_root_.Go.World.setCell _ ⟨g, 3, none⟩ d).heap[g]? = some (.cells #[a, b, c, d, x4, x5, x6, x7] T) := heap_setCell_same _ g 3 _ _ d h3
  have h5 : (_root_.Go.World.setCell _ ⟨g, 4, none⟩ e).heap[g]? = some (.cells #[a, b, c, d, e, x5, x6, x7] T) := heap_setCell_same _ g 4 _ _ e h4
  have h6 : (_root_.Go.World.setCell _ ⟨g, 5, none⟩ f).heap[g]? = some (.cells #[a, b, c, d, e, f, x6, x7] T) := heap_setCell_same _ g 5 _ _ f h5
  have h7 : (_root_.Go.World.setCell _ ⟨g, 6, none⟩ k).heap[g]? = some (.cells #[a, b, c, d, e, f, k, x7] T) := heap_setCell_same _ g 6 _ _ k h6
  exact heap_setCell_same _ g 7 _ _ i h7
theorem mload {W : World} {g : Nat} {a b c d e f k i : Value} (h : W.heap[g]? = some (.cells #[a, b, c, d, e, f, k, i] 36)) : (loadVar 36 ⟨g, 0, none⟩).run Try.prog W = .ok (.agg #[a, b, c, d, e, f, k, i]) W :=
  run_loadVar_row W g 36 36 _ (0, 0) _ h Try.underlying36 rfl (by kernel_rfl)
theorem rdCu_eq {xs ys : List UInt8} (h : (((rs8 xs).sp = true ∨ rdLo xs < 0 ∨ (xs.length : Int) - (rs8 xs).a < rdLo xs) ∧ ys = []) ∨ ((rs8 xs).sp = false ∧ 0 ≤ rdLo xs ∧ (rs8 xs).a + (rdLo xs).toNat ≤ xs.length ∧ ys = (xs.drop (rs8 xs).a).take (rdLo xs).toNat)) : ys = rdCu xs := by
  unfold rdCu
  rcases h with ⟨h1, h2⟩ | ⟨h1, h2, h3, h4⟩
  · rw [h2, if_neg]
    rintro ⟨k1, k2, k3⟩
    rcases h1 with h1 | h1 | h1
    · exact Bool.noConfusion (k1.symm.trans h1)
    · omega
    · omega
  · rw [h4, if_pos ⟨h1, h2, h3⟩]
set_option maxHeartbeats 4000000 in
set_option maxRecDepth 100000 in
theorem mread_any (A : Option Addr) (c : Nat) (xs : List UInt8) (w : World) (hb : Bs w A xs.length c xs) (h256 : xs.length = 256) :
    Calls Try.prog 98 #[.slice A xs.length c] w fun e w' => Below w.heap.size w w' ∧ ∃ A' c', e = .returned (.agg #[.int .i64 (rdGe xs), .int .i64 (rdPh xs), .int .i64 (rdTg xs), .int .i64 (rdTx xs), .int .i64 (rdRt xs), .int .i64 (rdPg xs), .int .i64 (rdLi xs), .slice A' (rdCu xs).length c']) ∧ Ow w' w.heap.size A' (rdCu xs).length c' (rdCu xs) := by
  have HX := Aside0.mk hb
  have HL := Aside0.mk h256
  clear hb h256
  go_enter Try.func98, Try.ntmps98
  go_wp2_with (first
    | (go_at_call 106; refine (newReader_any A xs.length c xs _ ((HX.out.alloc _).alloc _)).mono ?_; rintro e w1 ⟨gr, A1, c1, rfl, hgr, hne, hc, hO, hB⟩; (have H1 := Aside0.mk (show RW w gr A1 c1 xs ⟨0, false⟩ #[.int .i64 0, .int .i64 0, .int .i64 0, .int .i64 0, .int .i64 0, .int .i64 0, .int .i64 0, .slice none 0 0] w1 from by
        have r1 := heap_alloc_new (w.alloc (.cells #[.int .i64 0, .int .i64 0, .int .i64 0, .int .i64 0, .int .i64 0, .int .i64 0, .int .i64 0, .slice none 0 0] 36)) (.cells #[.int .i64 0, .int .i64 0, .int .i64 0, .int .i64 0, .int .i64 0, .int .i64 0, .int .i64 0, .slice none 0 0] 36)
        simp only [World.size_alloc] at r1 hgr hB hO
        refine ⟨hc, hO.bs, fun ad e h0 => ⟨hne ad e h0, ?_⟩, (hB.block _ (by omega)).trans ((Below.heap_alloc _ _ _ (by simp)).trans (heap_alloc_new w _)), (hB.block _ (by omega)).trans r1, below_then (((Below.refl _ _).alloc (Nat.le_refl _) _).alloc (by simp) _) (by simp; omega) (by simpa using hB), by omega⟩
        obtain ⟨k, e1, e2, _⟩ := hO.head h0
        rw [e1] at e
        injection e with e
        subst e
        exact (show k ≠ w.heap.size + 1 by omega))); clear hgr hne hc hO hB)
    | (go_at_call 70; refine (skip_any gr _ _ _ _ _ _ 4 w1 H1.out.cur).mono ?_; rintro e w2 ⟨rfl, ho, _, ⟨q, hc⟩ | ⟨q1, q2, q3, hc⟩⟩ <;> (first | (have q4 := (show ¬ (false = true ∨ (4 : Int) < 0 ∨ (xs.length : Int) - (0 : Nat) < 4) from by rw [HL.out]; decide) q; exact q4.elim) | skip); (have H2 := Aside0.mk (show RW w gr A1 c1 xs rs0 #[.int .i64 0, .int .i64 0, .int .i64 0, .int .i64 0, .int .i64 0, .int .i64 0, .int .i64 0, .slice none 0 0] w2 from H1.out.go ho hc)); clear ho hc q1 q2 q3)
    | (go_at_call 65; refine (heads_any (w.heap.size + 1) w2).mono ?_; rintro e w3 ⟨rfl, hB⟩; (have H3 := Aside0.mk (H2.out.step hB)); clear hB))
  go_loopg [17] 3 (fun k v wr => ∃ j : Nat, Aside (k + j = 3) ∧ v = .int .i64 (j : Int) ∧ Aside0 (RW w gr A1 c1 xs (rsH xs j) (rdHd xs j) wr))
  case atStart => exact ⟨0, rfl, rfl, H3⟩
  case round =>
    obtain ⟨j, hk, rfl, hI⟩ := hrel
    have hjb : j ≤ 3 := by have := hk.out; omega
    rcases (show j = 0 ∨ j = 1 ∨ j = 2 ∨ j = 3 by omega) with rfl | rfl | rfl | rfl
    · have ix := hix0 (w.heap.size + 1)
      go_wp2_with (go_at_call 107; refine (get_any gr A1 _ c1 _ _ xs 1 wr hI.out.cur hI.out.row (fun ad e h0 => (hI.out.ne ad e h0).1)).mono ?_; rintro e w5 ⟨rfl, ho, hc⟩; (have H5 := Aside0.mk (hI.out.go (s1 := gS xs (rsH xs 0) 1) ho hc)); clear ho hc; obtain ⟨z0, z1, z2, z3, z4, z5, z6, z7⟩ := row8_cells H5.out.r1; (have ft : ∀ j, w5.frozen? ⟨w.heap.size + 1, j, none⟩ = false := fun j => by simp [World.frozen?, H5.out.r1]))
      go_roundg (3 - (0 + 1))
      case measure => have := hk.out; omega
      case rel => exact ⟨0 + 1, rfl, by go_num, ⟨H5.out.set 0 _⟩⟩
    · have ix := hix1 (w.heap.size + 1)
      go_wp2_with (go_at_call 107; refine (get_any gr A1 _ c1 _ _ xs 1 wr hI.out.cur hI.out.row (fun ad e h0 => (hI.out.ne ad e h0).1)).mono ?_; rintro e w5 ⟨rfl, ho, hc⟩; (have H5 := Aside0.mk (hI.out.go (s1 := gS xs (rsH xs 1) 1) ho hc)); clear ho hc; obtain ⟨z0, z1, z2, z3, z4, z5, z6, z7⟩ := row8_cells H5.out.r1; (have ft : ∀ j, w5.frozen? ⟨w.heap.size + 1, j, none⟩ = false := fun j => by simp [World.frozen?, H5.out.r1]))
      go_roundg (3 - (1 + 1))
      case measure => have := hk.out; omega
      case rel => exact ⟨1 + 1, rfl, by go_num, ⟨H5.out.set 1 _⟩⟩
    · have ix := hix2 (w.heap.size + 1)
      go_wp2_with (go_at_call 107; refine (get_any gr A1 _ c1 _ _ xs 1 wr hI.out.cur hI.out.row (fun ad e h0 => (hI.out.ne ad e h0).1)).mono ?_; rintro e w5 ⟨rfl, ho, hc⟩; (have H5 := Aside0.mk (hI.out.go (s1 := gS xs (rsH xs 2) 1) ho hc)); clear ho hc; obtain ⟨z0, z1, z2, z3, z4, z5, z6, z7⟩ := row8_cells H5.out.r1; (have ft : ∀ j, w5.frozen? ⟨w.heap.size + 1, j, none⟩ = false := fun j => by simp [World.frozen?, H5.out.r1]))
      go_roundg (3 - (2 + 1))
      case measure => have := hk.out; omega
      case rel => exact ⟨2 + 1, rfl, by go_num, ⟨H5.out.set 2 _⟩⟩
    · clear hk hjb
      generalize wr = wq at hI ⊢
      go_wp2_with (first | (go_at_call 107; refine (get_any gr A1 _ c1 _ _ xs 1 wq hI.out.cur hI.out.row (fun ad e h0 => (hI.out.ne ad e h0).1)).mono ?_; rintro e w5 ⟨rfl, ho, hc⟩; (have H5 := Aside0.mk (hI.out.go (s1 := gS xs (rsH xs 3) 1) ho hc)); clear ho hc) | (go_at_call 64; refine (numbers_any (w.heap.size + 1) w5).mono ?_; rintro e w6 ⟨rfl, hB⟩; (have H6 := Aside0.mk (H5.out.step hB)); clear hB))
      go_loopg [28] 4 (fun k v wr => ∃ j : Nat, Aside (k + j = 4) ∧ v = .int .i64 (j : Int) ∧ Aside0 (RW w gr A1 c1 xs (rsN xs j) (rdNm xs j) wr))
      case atStart => exact ⟨0, rfl, rfl, H6⟩
      case round =>
        obtain ⟨j, hk, rfl, hI⟩ := hrel
        have hjb : j ≤ 4 := by have := hk.out; omega
        rcases (show j = 0 ∨ j = 1 ∨ j = 2 ∨ j = 3 ∨ j = 4 by omega) with rfl | rfl | rfl | rfl | rfl
        · have ix := nix0 (w.heap.size + 1)
          obtain ⟨z0, z1, z2, z3, z4, z5, z6, z7⟩ := row8_cells hI.out.r1
          go_wp2_with (first | (go_at_call 69; refine (idWidth_any (rdGe xs) _).mono ?_; rintro e w7 ⟨rfl, hB⟩; (have H7 := Aside0.mk (hI.out.step hB)); clear hB z0 z1 z2 z3 z4 z5 z6 z7) | (go_at_call 107; (first | rw [show (#[Value.pointer (some ⟨gr, 0, none⟩), Value.int IntKind.i64 (iwI (rdGe xs))] : Array Value) = #[Value.pointer (some ⟨gr, 0, none⟩), Value.int IntKind.i64 (rdWd xs)] from by unfold rdWd; rw [if_neg (by omega)]] | rw [show (#[Value.pointer (some ⟨gr, 0, none⟩), Value.int IntKind.i64 1] : Array Value) = #[Value.pointer (some ⟨gr, 0, none⟩), Value.int IntKind.i64 (rdWd xs)] from by unfold rdWd; rw [if_pos (by assumption)]]); refine (get_any gr A1 _ c1 _ _ xs (rdWd xs) w7 H7.out.cur H7.out.row (fun ad e h0 => (H7.out.ne ad e h0).1)).mono ?_; rintro e w8 ⟨rfl, ho, hc⟩; (have H8 := Aside0.mk (H7.out.go (s1 := gS xs (rsN xs 0) (rdWd xs)) ho hc)); clear ho hc; obtain ⟨z0, z1, z2, z3, z4, z5, z6, z7⟩ := row8_cells H8.out.r1; (have ft : ∀ j, w8.frozen? ⟨w.heap.size + 1, j, none⟩ = false := fun j => by simp [World.frozen?, H8.out.r1])))
          · go_roundg (4 - (0 + 1))
            case measure => have := hk.out; omega
            case rel => exact ⟨0 + 1, rfl, by go_num, ⟨H8.out.set 3 _⟩⟩
          · go_roundg (4 - (0 + 1))
            case measure => have := hk.out; omega
            case rel => exact ⟨0 + 1, rfl, by go_num, ⟨H8.out.set 3 _⟩⟩
        · have ix := nix1 (w.heap.size + 1)
          obtain ⟨z0, z1, z2, z3, z4, z5, z6, z7⟩ := row8_cells hI.out.r1
          go_wp2_with (first | (go_at_call 69; refine (idWidth_any (rdGe xs) _).mono ?_; rintro e w7 ⟨rfl, hB⟩; (have H7 := Aside0.mk (hI.out.step hB)); clear hB z0 z1 z2 z3 z4 z5 z6 z7) | (go_at_call 107; (first | rw [show (#[Value.pointer (some ⟨gr, 0, none⟩), Value.int IntKind.i64 (iwI (rdGe xs))] : Array Value) = #[Value.pointer (some ⟨gr, 0, none⟩), Value.int IntKind.i64 (rdWd xs)] from by unfold rdWd; rw [if_neg (by omega)]] | rw [show (#[Value.pointer (some ⟨gr, 0, none⟩), Value.int IntKind.i64 1] : Array Value) = #[Value.pointer (some ⟨gr, 0, none⟩), Value.int IntKind.i64 (rdWd xs)] from by unfold rdWd; rw [if_pos (by assumption)]]); refine (get_any gr A1 _ c1 _ _ xs (rdWd xs) w7 H7.out.cur H7.out.row (fun ad e h0 => (H7.out.ne ad e h0).1)).mono ?_; rintro e w8 ⟨rfl, ho, hc⟩; (have H8 := Aside0.mk (H7.out.go (s1 := gS xs (rsN xs 1) (rdWd xs)) ho hc)); clear ho hc; obtain ⟨z0, z1, z2, z3, z4, z5, z6, z7⟩ := row8_cells H8.out.r1; (have ft : ∀ j, w8.frozen? ⟨w.heap.size + 1, j, none⟩ = false := fun j => by simp [World.frozen?, H8.out.r1])))
          · go_roundg (4 - (1 + 1))
            case measure => have := hk.out; omega
            case rel => exact ⟨1 + 1, rfl, by go_num, ⟨H8.out.set 4 _⟩⟩
          · go_roundg (4 - (1 + 1))
            case measure => have := hk.out; omega
            case rel => exact ⟨1 + 1, rfl, by go_num, ⟨H8.out.set 4 _⟩⟩
        · have ix := nix2 (w.heap.size + 1)
          obtain ⟨z0, z1, z2, z3, z4, z5, z6, z7⟩ := row8_cells hI.out.r1
          go_wp2_with (first | (go_at_call 69; refine (idWidth_any (rdGe xs) _).mono ?_; rintro e w7 ⟨rfl, hB⟩; (have H7 := Aside0.mk (hI.out.step hB)); clear hB z0 z1 z2 z3 z4 z5 z6 z7) | (go_at_call 107; (first | rw [show (#[Value.pointer (some ⟨gr, 0, none⟩), Value.int IntKind.i64 (iwI (rdGe xs))] : Array Value) = #[Value.pointer (some ⟨gr, 0, none⟩), Value.int IntKind.i64 (rdWd xs)] from by unfold rdWd; rw [if_neg (by omega)]] | rw [show (#[Value.pointer (some ⟨gr, 0, none⟩), Value.int IntKind.i64 1] : Array Value) = #[Value.pointer (some ⟨gr, 0, none⟩), Value.int IntKind.i64 (rdWd xs)] from by unfold rdWd; rw [if_pos (by assumption)]]); refine (get_any gr A1 _ c1 _ _ xs (rdWd xs) w7 H7.out.cur H7.out.row (fun ad e h0 => (H7.out.ne ad e h0).1)).mono ?_; rintro e w8 ⟨rfl, ho, hc⟩; (have H8 := Aside0.mk (H7.out.go (s1 := gS xs (rsN xs 2) (rdWd xs)) ho hc)); clear ho hc; obtain ⟨z0, z1, z2, z3, z4, z5, z6, z7⟩ := row8_cells H8.out.r1; (have ft : ∀ j, w8.frozen? ⟨w.heap.size + 1, j, none⟩ = false := fun j => by simp [World.frozen?, H8.out.r1])))
          · go_roundg (4 - (2 + 1))
            case measure => have := hk.out; omega
            case rel => exact ⟨2 + 1, rfl, by go_num, ⟨H8.out.set 5 _⟩⟩
          · go_roundg (4 - (2 + 1))
            case measure => have := hk.out; omega
            case rel => exact ⟨2 + 1, rfl, by go_num, ⟨H8.out.set 5 _⟩⟩
        · have ix := nix3 (w.heap.size + 1)
          obtain ⟨z0, z1, z2, z3, z4, z5, z6, z7⟩ := row8_cells hI.out.r1
          go_wp2_with (first | (go_at_call 69; refine (idWidth_any (rdGe xs) _).mono ?_; rintro e w7 ⟨rfl, hB⟩; (have H7 := Aside0.mk (hI.out.step hB)); clear hB z0 z1 z2 z3 z4 z5 z6 z7) | (go_at_call 107; (first | rw [show (#[Value.pointer (some ⟨gr, 0, none⟩), Value.int IntKind.i64 (iwI (rdGe xs))] : Array Value) = #[Value.pointer (some ⟨gr, 0, none⟩), Value.int IntKind.i64 (rdWd xs)] from by unfold rdWd; rw [if_neg (by omega)]] | rw [show (#[Value.pointer (some ⟨gr, 0, none⟩), Value.int IntKind.i64 1] : Array Value) = #[Value.pointer (some ⟨gr, 0, none⟩), Value.int IntKind.i64 (rdWd xs)] from by unfold rdWd; rw [if_pos (by assumption)]]); refine (get_any gr A1 _ c1 _ _ xs (rdWd xs) w7 H7.out.cur H7.out.row (fun ad e h0 => (H7.out.ne ad e h0).1)).mono ?_; rintro e w8 ⟨rfl, ho, hc⟩; (have H8 := Aside0.mk (H7.out.go (s1 := gS xs (rsN xs 3) (rdWd xs)) ho hc)); clear ho hc; obtain ⟨z0, z1, z2, z3, z4, z5, z6, z7⟩ := row8_cells H8.out.r1; (have ft : ∀ j, w8.frozen? ⟨w.heap.size + 1, j, none⟩ = false := fun j => by simp [World.frozen?, H8.out.r1])))
          · go_roundg (4 - (3 + 1))
            case measure => have := hk.out; omega
            case rel => exact ⟨3 + 1, rfl, by go_num, ⟨H8.out.set 6 _⟩⟩
          · go_roundg (4 - (3 + 1))
            case measure => have := hk.out; omega
            case rel => exact ⟨3 + 1, rfl, by go_num, ⟨H8.out.set 6 _⟩⟩
        · clear hk hjb
          generalize wr = wp at hI ⊢
          go_wp2_with (go_at_call 108; refine (rbytes_any w.heap.size gr A1 _ c1 _ _ xs (rdLo xs) wp hI.out.cur hI.out.row (fun ad e h0 => (hI.out.ne ad e h0).1)).mono ?_; rintro e w9 ⟨A9, n9, c9, ys, rfl, hO, ho, hc⟩; (have hys := rdCu_eq (hc.imp (fun h => ⟨h.1, h.2.2⟩) (fun h => ⟨h.1, h.2.1, h.2.2.1, h.2.2.2.2⟩))); subst hys; (have hn9 : n9 = (rdCu xs).length := hO.len.symm); subst hn9; (have r1 := (ho.block _ (Array.getElem?_eq_some_iff.1 hI.out.r1).1 (by have := hI.out.hi; omega)).trans hI.out.r1); (have r0 := (ho.block _ (Array.getElem?_eq_some_iff.1 hI.out.r0).1 (by have := hI.out.hi; omega)).trans hI.out.r0); obtain ⟨z0, z1, z2, z3, z4, z5, z6, z7⟩ := row8_cells r1; (have ft : ∀ j, w9.frozen? ⟨w.heap.size + 1, j, none⟩ = false := fun j => by simp [World.frozen?, r1]); obtain ⟨W10, hW10⟩ : ∃ W10, w9.setCell ⟨w.heap.size + 1, 7, none⟩ (.slice A9 (rdCu xs).length c9) = W10 := ⟨_, rfl⟩; (have q1 : W10.heap[w.heap.size + 1]? = some (.cells #[.int .i64 (rdGe xs), .int .i64 (rdPh xs), .int .i64 (rdTg xs), .int .i64 (rdTx xs), .int .i64 (rdRt xs), .int .i64 (rdPg xs), .int .i64 (rdLi xs), .slice A9 (rdCu xs).length c9] 36) := by rw [← hW10]; exact heap_setCell_same w9 _ 7 _ _ _ r1); (have q0 : W10.heap[w.heap.size]? = some (.cells #[.int .i64 0, .int .i64 0, .int .i64 0, .int .i64 0, .int .i64 0, .int .i64 0, .int .i64 0, .slice none 0 0] 36) := by rw [← hW10]; exact (Below.heap_setCell _ _ _ _ (show w.heap.size ≠ w.heap.size + 1 by omega)).trans r0); obtain ⟨y0, y1, y2, y3, y4, y5, y6, y7⟩ := row8_cells q1; obtain ⟨d0, d1, d2, d3, d4, d5, d6, d7⟩ := row8_cells q0; (have fd : ∀ j, W10.frozen? ⟨w.heap.size, j, none⟩ = false := fun j => by simp [World.frozen?, q0]); (have HZ := Aside0.mk (And.intro hO (And.intro (ho.below hI.out.bel (by have := hI.out.hi; omega) (Nat.le_refl _)) (And.intro q0 (And.intro hW10 hI.out.bel.size))))); clear hO ho hc r0 r1 q0 q1)
          have hLd := mload (row8_set (.int .i64 (rdGe xs)) (.int .i64 (rdPh xs)) (.int .i64 (rdTg xs)) (.int .i64 (rdTx xs)) (.int .i64 (rdRt xs)) (.int .i64 (rdPg xs)) (.int .i64 (rdLi xs)) (.slice A9 (rdCu xs).length c9) HZ.out.2.2.1)
          refine bodyPost_ret (v := .agg #[.int .i64 (rdGe xs), .int .i64 (rdPh xs), .int .i64 (rdTg xs), .int .i64 (rdTx xs), .int .i64 (rdRt xs), .int .i64 (rdPg xs), .int .i64 (rdLi xs), .slice A9 (rdCu xs).length c9]) (by simp [results, Try.results98, asAddr, hLd]) rfl ⟨?_, A9, c9, rfl, ?_⟩
          · have hb10 : Below w.heap.size w W10 := by rw [← HZ.out.2.2.2.1]; exact below_set _ HZ.out.2.1 (by omega)
            exact below_set _ (below_set _ (below_set _ (below_set _ (below_set _ (below_set _ (below_set _ (below_set _ hb10 (Nat.le_refl _)) (Nat.le_refl _)) (Nat.le_refl _)) (Nat.le_refl _)) (Nat.le_refl _)) (Nat.le_refl _)) (Nat.le_refl _)) (Nat.le_refl _)
          · have hlo : w.heap.size + 1 < wp.heap.size := (Array.getElem?_eq_some_iff.1 hI.out.r1).1
            have ho10 := HZ.out.1.setc (g := w.heap.size + 1) (j := 7) (.slice A9 (rdCu xs).length c9) hlo
            rw [HZ.out.2.2.2.1] at ho10
            exact ((((((((ho10.setc _ (by omega)).setc _ (by omega)).setc _ (by omega)).setc _ (by omega)).setc _ (by omega)).setc _ (by omega)).setc _ (by omega)).setc _ (by omega)).mono (by omega)

end Go.Proofs.Ythhalmjapiempaa

set_option linter.unusedVariables false
set_option linter.unusedSimpArgs false
namespace Go.Proofs.Ythhalmjapiempaa
open Go.RowKit

def pre8 (xs ys : List UInt8) : Bool := decide (ys.length ≤ xs.length ∧ xs.take ys.length = ys)
/-- Why Decode says no; 0: it does not. -/
def decE (xs : List UInt8) : Int :=
  if xs.length = 256 ∧ pre8 xs magicL = true ∧ pre8 (xs.drop 248) tailL = true then
    if sealB xs 252 = xs then
      if genB (rdGe xs) = true ∧ rdTg xs ≤ 3 then
        if mrightB (rdGe xs) (rdPh xs) (rdTg xs) (rdTx xs) (rdRt xs) (rdPg xs) (rdLi xs) (rdCu xs).length = true ∧ encP (rdGe xs) (rdPh xs) (rdTg xs) (rdTx xs) (rdRt xs) (rdPg xs) (rdLi xs) (rdCu xs) = xs then 0 else 92
      else 93
    else 91
  else 90
set_option maxHeartbeats 1000000 in
set_option maxRecDepth 100000 in
theorem hasPrefix_any (A : Option Addr) (n c : Nat) (xs : List UInt8) (B : Option Addr) (m d : Nat) (ys : List UInt8) (w : World) (hx : Bs w A n c xs) (hy : Bs w B m d ys) :
    Calls Try.prog 96 #[.slice A n c, .slice B m d] w fun e w' => e = .returned (.bool (pre8 xs ys)) ∧ w = w' := by
  have hln := hx.len
  have hlm := hy.len
  have hl1 := hx.lim
  have hl2 := hy.lim
  by_cases h : m ≤ n
  · have f1 : decide (m ≤ n) = true := decide_eq_true h
    have s1 : ∀ W : World, (Instr.slice 22 (.slice A n c) none (some (.int .i64 (m : Int))) none).run Try.prog W = .ok (.slice A m c) W := fun W => by
      rw [sl8_h W A n c .i64 (m : Int) (by omega) (by have := hx.le; omega), Int.toNat_natCast]
    have hv := Aside0.mk (show pre8 xs ys = (xs.take m == ys) from by unfold pre8; rw [hlm, hln, Bool.eq_iff_iff, decide_eq_true_iff, beq_iff_eq]; exact ⟨fun k => k.2, fun k => ⟨h, k⟩⟩)
    have HX := Aside0.mk (And.intro (hx.take m h) hy)
    clear hx hy hln hlm h
    go_enter Try.func96, Try.ntmps96
    go_wp2_with (go_at_call 37; refine (equal8_any _ _ _ _ _ _ _ _ _ HX.out.1 HX.out.2).mono ?_; rintro e w1 ⟨rfl, rfl⟩)
    go_ret
    exact ⟨ret_bool hv.out.symm, rfl⟩
  · have f1 : decide (m ≤ n) = false := decide_eq_false h
    have hv := Aside0.mk (show pre8 xs ys = false from decide_eq_false (fun k => by omega))
    clear hx hy hln hlm h
    go_enter Try.func96, Try.ntmps96
    go_wp2
    go_ret
    exact ⟨ret_bool hv.out.symm, rfl⟩

theorem below_set8 {B g : Nat} {a W : World} (v0 v1 v2 v3 v4 v5 v6 v7 : Value) (h : Below B a W) (hg : B ≤ g) :
    Below B a ((((((((W.setCell ⟨g, 0, none⟩ v0).setCell ⟨g, 1, none⟩ v1).setCell ⟨g, 2, none⟩ v2).setCell ⟨g, 3, none⟩ v3).setCell ⟨g, 4, none⟩ v4).setCell ⟨g, 5, none⟩ v5).setCell ⟨g, 6, none⟩ v6).setCell ⟨g, 7, none⟩ v7) :=
  below_set _ (below_set _ (below_set _ (below_set _ (below_set _ (below_set _ (below_set _ (below_set _ h hg) hg) hg) hg) hg) hg) hg) hg

/-- The meta's box, and the result's, as Decode goes on. -/
structure MB (w : World) (g : Nat) (A1 : Option Addr) (c1 : Nat) (xs : List UInt8) (W : World) : Prop where
  bel : Below w.heap.size w W
  res : W.heap[w.heap.size]? = some (.cells #[.int .i64 0, .int .i64 0, .int .i64 0, .int .i64 0, .int .i64 0, .int .i64 0, .int .i64 0, .slice none 0 0] 36)
  row : W.heap[g]? = some (.cells #[.int .i64 (rdGe xs), .int .i64 (rdPh xs), .int .i64 (rdTg xs), .int .i64 (rdTx xs), .int .i64 (rdRt xs), .int .i64 (rdPg xs), .int .i64 (rdLi xs), .slice A1 (rdCu xs).length c1] 36)
  own : Ow W (w.heap.size + 1) A1 (rdCu xs).length c1 (rdCu xs)
  lo : w.heap.size < g
theorem MB.step {w W W1 : World} {g c1 : Nat} {A1 : Option Addr} {xs : List UInt8} (h : MB w g A1 c1 xs W) (hB : Below W.heap.size W W1) : MB w g A1 c1 xs W1 :=
  ⟨below_then h.bel h.bel.size hB, (hB.block _ (Array.getElem?_eq_some_iff.1 h.res).1).trans h.res, (hB.block _ (Array.getElem?_eq_some_iff.1 h.row).1).trans h.row, h.own.below hB, h.lo⟩
theorem only_set8 {g : Nat} {W : World} (v0 v1 v2 v3 v4 v5 v6 v7 : Value) :
    OnlyB g W ((((((((W.setCell ⟨g, 0, none⟩ v0).setCell ⟨g, 1, none⟩ v1).setCell ⟨g, 2, none⟩ v2).setCell ⟨g, 3, none⟩ v3).setCell ⟨g, 4, none⟩ v4).setCell ⟨g, 5, none⟩ v5).setCell ⟨g, 6, none⟩ v6).setCell ⟨g, 7, none⟩ v7) :=
  ((((((((OnlyB.refl g W).set 0 v0).set 1 v1).set 2 v2).set 3 v3).set 4 v4).set 5 v5).set 6 v6).set 7 v7
theorem Ow.only_lo {w w1 : World} {g base n c : Nat} {A : Option Addr} {xs : List UInt8} (h : Ow w base A n c xs) (ho : OnlyB g w w1) (hg : g < base) : Ow w1 base A n c xs := by
  refine ⟨⟨h.row.1, ?_⟩, h.lim⟩
  rcases h.row.2 with hn | ⟨k, cap, cur, hv, hk, hh, rest⟩
  · exact .inl hn
  · exact .inr ⟨k, cap, cur, hv, hk, (ho.block k (Array.getElem?_eq_some_iff.1 hh).1 (by omega)).trans hh, rest⟩

theorem mread256 (A : Option Addr) (c : Nat) (xs : List UInt8) (w : World) (hb : Bs w A 256 c xs) (hl : xs.length = 256) :
    Calls Try.prog 98 #[.slice A 256 c] w fun e w' => Below w.heap.size w w' ∧ ∃ A' c', e = .returned (.agg #[.int .i64 (rdGe xs), .int .i64 (rdPh xs), .int .i64 (rdTg xs), .int .i64 (rdTx xs), .int .i64 (rdRt xs), .int .i64 (rdPg xs), .int .i64 (rdLi xs), .slice A' (rdCu xs).length c']) ∧ Ow w' w.heap.size A' (rdCu xs).length c' (rdCu xs) := by
  have h := mread_any A c xs w (by rw [hl]; exact hb) hl
  rw [hl] at h
  exact h

set_option maxHeartbeats 4000000 in
set_option maxRecDepth 100000 in
theorem mdecode_any (A : Option Addr) (n c : Nat) (xs : List UInt8) (w : World) (hb : Bs w A n c xs) :
    Calls Try.prog 77 #[.slice A n c] w fun e w' => Below w.heap.size w w' ∧ ((decE xs ≠ 0 ∧ e = .returned (.tuple #[.agg #[.int .i64 0, .int .i64 0, .int .i64 0, .int .i64 0, .int .i64 0, .int .i64 0, .int .i64 0, .slice none 0 0], .int .i64 (decE xs)])) ∨ (decE xs = 0 ∧ ∃ A1 c1, e = .returned (.tuple #[.agg #[.int .i64 (rdGe xs), .int .i64 (rdPh xs), .int .i64 (rdTg xs), .int .i64 (rdTx xs), .int .i64 (rdRt xs), .int .i64 (rdPg xs), .int .i64 (rdLi xs), .slice A1 (rdCu xs).length c1], .int .i64 0]) ∧ Ow w' w.heap.size A1 (rdCu xs).length c1 (rdCu xs))) := by
  have hln := hb.len
  have hlim := hb.lim
  have hnc := hb.le
  have hr := Aside0.mk (heap_alloc_new w (.cells #[.int .i64 0, .int .i64 0, .int .i64 0, .int .i64 0, .int .i64 0, .int .i64 0, .int .i64 0, .slice none 0 0] 36))
  have HB := Aside0.mk ((Below.refl w.heap.size w).alloc (Nat.le_refl _) (.cells #[.int .i64 0, .int .i64 0, .int .i64 0, .int .i64 0, .int .i64 0, .int .i64 0, .int .i64 0, .slice none 0 0] 36))
  have HX := Aside0.mk hb
  clear hb
  by_cases h256 : n = 256
  · subst h256
    have kcA := fun C n c => Go.Joins.run_convert_bytes_const_at (P := Try.prog) (w.alloc (.cells #[.int .i64 0, .int .i64 0, .int .i64 0, .int .i64 0, .int .i64 0, .int .i64 0, .int .i64 0, .slice none 0 0] 36)) 22 5 C n c (w.heap.size + 1) (by simp) Try.underlying22 Try.underlying5
    have kcB := fun C n c => Go.Joins.run_convert_bytes_const_at (P := Try.prog) ((w.alloc (.cells #[.int .i64 0, .int .i64 0, .int .i64 0, .int .i64 0, .int .i64 0, .int .i64 0, .int .i64 0, .slice none 0 0] 36)).alloc (.cells #[.int .u8 82, .int .u8 71, .int .u8 65, .int .u8 85] 5 (4, 5))) 22 5 C n c (w.heap.size + 1 + 1) (by simp) Try.underlying22 Try.underlying5
    have s1 : ∀ W : World, (Instr.slice 22 (.slice A 256 c) (some (.int .i64 248)) none none).run Try.prog W = .ok (.slice (cutA A c 248) 8 (c - 248)) W := fun W => by
      rw [sl8_l W A 256 c .i64 248 (by omega) (by omega)]
      rfl
    have HM := Aside0.mk (And.intro ((HX.out.alloc (.cells #[.int .i64 0, .int .i64 0, .int .i64 0, .int .i64 0, .int .i64 0, .int .i64 0, .int .i64 0, .slice none 0 0] 36)).alloc (.cells #[.int .u8 82, .int .u8 71, .int .u8 65, .int .u8 85] 5 (4, 5))) (Bs.lit (w.alloc (.cells #[.int .i64 0, .int .i64 0, .int .i64 0, .int .i64 0, .int .i64 0, .int .i64 0, .int .i64 0, .slice none 0 0] 36)) (w.heap.size + 1) (by simp) #[.int .u8 82, .int .u8 71, .int .u8 65, .int .u8 85] 5 (4, 5) 4 4 magicL rfl rfl (by omega) (by omega) (by omega)))
    have HT := Aside0.mk (And.intro ((((HX.out.drop 248 (by omega)).alloc (.cells #[.int .i64 0, .int .i64 0, .int .i64 0, .int .i64 0, .int .i64 0, .int .i64 0, .int .i64 0, .slice none 0 0] 36)).alloc (.cells #[.int .u8 82, .int .u8 71, .int .u8 65, .int .u8 85] 5 (4, 5))).alloc (.cells #[.int .u8 85, .int .u8 65, .int .u8 71, .int .u8 82] 5 (4, 5))) (Bs.lit ((w.alloc (.cells #[.int .i64 0, .int .i64 0, .int .i64 0, .int .i64 0, .int .i64 0, .int .i64 0, .int .i64 0, .slice none 0 0] 36)).alloc (.cells #[.int .u8 82, .int .u8 71, .int .u8 65, .int .u8 85] 5 (4, 5))) (w.heap.size + 1 + 1) (by simp) #[.int .u8 85, .int .u8 65, .int .u8 71, .int .u8 82] 5 (4, 5) 4 4 tailL rfl rfl (by omega) (by omega) (by omega)))
    cases p1 : pre8 xs magicL with
    | false =>
      have hd := Aside0.mk (show decE xs = 90 from if_neg (fun k => by rw [p1] at k; exact Bool.noConfusion k.2.1))
      have hL := mload ((Below.heap_alloc (w.alloc (.cells #[.int .i64 0, .int .i64 0, .int .i64 0, .int .i64 0, .int .i64 0, .int .i64 0, .int .i64 0, .slice none 0 0] 36)) (.cells #[.int .u8 82, .int .u8 71, .int .u8 65, .int .u8 85] 5 (4, 5)) w.heap.size (by simp)).trans hr.out)
      go_enter Try.func77, Try.ntmps77
      go_wp2_with (go_at_call 96; first | ((with_reducible refine (hasPrefix_any A 256 c xs _ 4 4 magicL _ HM.out.1 HM.out.2).mono ?_); rintro e w2 ⟨rfl, rfl⟩; rw [p1]) | ((with_reducible refine (hasPrefix_any _ _ _ (xs.drop 248) _ 4 4 tailL _ HT.out.1 HT.out.2).mono ?_); rintro e w3 ⟨rfl, rfl⟩; rw [p2]))
      refine bodyPost_ret (v := .tuple #[.agg #[.int .i64 0, .int .i64 0, .int .i64 0, .int .i64 0, .int .i64 0, .int .i64 0, .int .i64 0, .slice none 0 0], .int .i64 90]) (by simp [results, Try.results77, asAddr, hL]) rfl ⟨HB.out.alloc (by simp) _, .inl ⟨by rw [hd.out]; decide, by rw [hd.out]⟩⟩
    | true =>
      cases p2 : pre8 (xs.drop 248) tailL with
      | false =>
        have hd := Aside0.mk (show decE xs = 90 from if_neg (fun k => by rw [p2] at k; exact Bool.noConfusion k.2.2))
        have hL := mload ((Below.heap_alloc ((w.alloc (.cells #[.int .i64 0, .int .i64 0, .int .i64 0, .int .i64 0, .int .i64 0, .int .i64 0, .int .i64 0, .slice none 0 0] 36)).alloc (.cells #[.int .u8 82, .int .u8 71, .int .u8 65, .int .u8 85] 5 (4, 5))) (.cells #[.int .u8 85, .int .u8 65, .int .u8 71, .int .u8 82] 5 (4, 5)) w.heap.size (by simp only [World.size_alloc]; omega)).trans ((Below.heap_alloc (w.alloc (.cells #[.int .i64 0, .int .i64 0, .int .i64 0, .int .i64 0, .int .i64 0, .int .i64 0, .int .i64 0, .slice none 0 0] 36)) (.cells #[.int .u8 82, .int .u8 71, .int .u8 65, .int .u8 85] 5 (4, 5)) w.heap.size (by simp only [World.size_alloc]; omega)).trans hr.out))
        go_enter Try.func77, Try.ntmps77
        go_wp2_with (go_at_call 96; first | ((with_reducible refine (hasPrefix_any A 256 c xs _ 4 4 magicL _ HM.out.1 HM.out.2).mono ?_); rintro e w2 ⟨rfl, rfl⟩; rw [p1]) | ((with_reducible refine (hasPrefix_any _ _ _ (xs.drop 248) _ 4 4 tailL _ HT.out.1 HT.out.2).mono ?_); rintro e w3 ⟨rfl, rfl⟩; rw [p2]))
        refine bodyPost_ret (v := .tuple #[.agg #[.int .i64 0, .int .i64 0, .int .i64 0, .int .i64 0, .int .i64 0, .int .i64 0, .int .i64 0, .slice none 0 0], .int .i64 90]) (by simp [results, Try.results77, asAddr, hL]) rfl ⟨(HB.out.alloc (by simp) _).alloc (by simp only [World.size_alloc]; omega) _, .inl ⟨by rw [hd.out]; decide, by rw [hd.out]⟩⟩
      | true =>
        have hd0 := Aside0.mk (show xs.length = 256 ∧ pre8 xs magicL = true ∧ pre8 (xs.drop 248) tailL = true from ⟨hln, p1, p2⟩)
        have hr3 := Aside0.mk ((Below.heap_alloc ((w.alloc (.cells #[.int .i64 0, .int .i64 0, .int .i64 0, .int .i64 0, .int .i64 0, .int .i64 0, .int .i64 0, .slice none 0 0] 36)).alloc (.cells #[.int .u8 82, .int .u8 71, .int .u8 65, .int .u8 85] 5 (4, 5))) (.cells #[.int .u8 85, .int .u8 65, .int .u8 71, .int .u8 82] 5 (4, 5)) w.heap.size (by simp only [World.size_alloc]; omega)).trans ((Below.heap_alloc (w.alloc (.cells #[.int .i64 0, .int .i64 0, .int .i64 0, .int .i64 0, .int .i64 0, .int .i64 0, .int .i64 0, .slice none 0 0] 36)) (.cells #[.int .u8 82, .int .u8 71, .int .u8 65, .int .u8 85] 5 (4, 5)) w.heap.size (by simp only [World.size_alloc]; omega)).trans hr.out))
        have HB3 := Aside0.mk ((HB.out.alloc (by simp) (.cells #[.int .u8 82, .int .u8 71, .int .u8 65, .int .u8 85] 5 (4, 5))).alloc (by simp only [World.size_alloc]; omega) (.cells #[.int .u8 85, .int .u8 65, .int .u8 71, .int .u8 82] 5 (4, 5)))
        have HS := Aside0.mk (((HX.out.alloc (.cells #[.int .i64 0, .int .i64 0, .int .i64 0, .int .i64 0, .int .i64 0, .int .i64 0, .int .i64 0, .slice none 0 0] 36)).alloc (.cells #[.int .u8 82, .int .u8 71, .int .u8 65, .int .u8 85] 5 (4, 5))).alloc (.cells #[.int .u8 85, .int .u8 65, .int .u8 71, .int .u8 82] 5 (4, 5)))
        obtain ⟨W, hW⟩ : ∃ W, (((w.alloc (.cells #[.int .i64 0, .int .i64 0, .int .i64 0, .int .i64 0, .int .i64 0, .int .i64 0, .int .i64 0, .slice none 0 0] 36)).alloc (.cells #[.int .u8 82, .int .u8 71, .int .u8 65, .int .u8 85] 5 (4, 5))).alloc (.cells #[.int .u8 85, .int .u8 65, .int .u8 71, .int .u8 82] 5 (4, 5))) = W := ⟨_, rfl⟩
        rw [hW] at hr3 HB3 HS HT
        by_cases p3 : sealB xs 252 = xs
        · have k3 : (decide ((0 : Int) ≤ 252 ∧ (252 : Int) ≤ ((256 : Nat) : Int) - 4) && sealB xs 252 == xs) = true := by rw [p3]; simp
          have q3 := Aside0.mk p3
          clear p3
          go_enter Try.func77, Try.ntmps77
          by_cases g1 : genB (rdGe xs) = true
          · by_cases g2 : rdTg xs ≤ 3
            · have d2 : decide (3 < rdTg xs) = false := decide_eq_false (by omega)
              have g12 := Aside0.mk (And.intro g1 g2)
              clear g2
              cases hR : mrightB (rdGe xs) (rdPh xs) (rdTg xs) (rdTx xs) (rdRt xs) (rdPg xs) (rdLi xs) (rdCu xs).length with
              | false =>
                have hd := Aside0.mk (show decE xs = 92 from by unfold decE; rw [if_pos hd0.out, if_pos q3.out, if_pos g12.out, if_neg (fun k => by rw [hR] at k; exact Bool.noConfusion k.1)])
                go_wp2_with (first | (go_at_call 96; first | ((with_reducible refine (hasPrefix_any A 256 c xs _ 4 4 magicL _ HM.out.1 HM.out.2).mono ?_); rintro e w2 ⟨rfl, rfl⟩; rw [p1]) | ((with_reducible refine (hasPrefix_any _ _ _ (xs.drop 248) _ 4 4 tailL _ HT.out.1 HT.out.2).mono ?_); rintro e w3 ⟨rfl, rfl⟩; rw [p2])) | (go_at_call 97; (with_reducible refine (sealed_any A 256 c xs 252 W HS.out).mono ?_); rintro e w4 ⟨rfl, hB4⟩; rw [k3]; (have H4 := Aside0.mk (And.intro (below_then HB3.out HB3.out.size hB4) ((hB4.block w.heap.size (Array.getElem?_eq_some_iff.1 hr3.out).1).trans hr3.out))); clear hB4; (have y := row8_cells H4.out.2); (obtain ⟨y0, y1, y2, y3, y4, y5, y6, y7⟩ := y); (have yf := fun j => Go.Joins.unfrozen_of_block H4.out.2 j)) | (go_at_call 98; (with_reducible refine (mread256 A c xs w4 (HX.out.below H4.out.1) hd0.out.1).mono ?_); rintro e w5 ⟨hB5, A1, c1, rfl, hO5⟩; (have H5 := Aside0.mk (And.intro (below_then H4.out.1 H4.out.1.size hB5) (And.intro ((hB5.block w.heap.size (Array.getElem?_eq_some_iff.1 H4.out.2).1).trans H4.out.2) hO5))); clear hB5 hO5; (have H6 := Aside0.mk (show MB w w5.heap.size A1 c1 xs (w5.alloc (.cells #[.int .i64 (rdGe xs), .int .i64 (rdPh xs), .int .i64 (rdTg xs), .int .i64 (rdTx xs), .int .i64 (rdRt xs), .int .i64 (rdPg xs), .int .i64 (rdLi xs), .slice A1 (rdCu xs).length c1] 36)) from ⟨H5.out.1.alloc H5.out.1.size _, (Below.heap_alloc _ _ _ (Array.getElem?_eq_some_iff.1 H5.out.2.1).1).trans H5.out.2.1, heap_alloc_new _ _, (H5.out.2.2.mono (Array.getElem?_eq_some_iff.1 H4.out.2).1).alloc _, (Array.getElem?_eq_some_iff.1 H5.out.2.1).1⟩)); (obtain ⟨w6, hw6⟩ : ∃ W, w5.alloc (.cells #[.int .i64 (rdGe xs), .int .i64 (rdPh xs), .int .i64 (rdTg xs), .int .i64 (rdTx xs), .int .i64 (rdRt xs), .int .i64 (rdPg xs), .int .i64 (rdLi xs), .slice A1 (rdCu xs).length c1] 36) = W := ⟨_, rfl⟩); rw [hw6] at H6; (have z := row8_cells H6.out.row); (obtain ⟨z0, z1, z2, z3, z4, z5, z6, z7⟩ := z); (have u := row8_cells H6.out.res); (obtain ⟨u0, u1, u2, u3, u4, u5, u6, u7⟩ := u); (have uf := fun j => Go.Joins.unfrozen_of_block H6.out.res j)) | (go_at_call 99; (with_reducible refine (gen_any (rdGe xs) w6).mono ?_); rintro e w7 ⟨rfl, rfl⟩; rw [g1]) | (go_at_call 43; (with_reducible refine (mencode_any (rdGe xs) (rdPh xs) (rdTg xs) (rdTx xs) (rdRt xs) (rdPg xs) (rdLi xs) A1 (rdCu xs).length c1 (rdCu xs) w6 H6.out.own.bs).mono ?_); rintro e w8 ⟨hB8, hc⟩; (have H8 := Aside0.mk (H6.out.step hB8)); clear hB8; (have hc := hc.resolve_right (fun k => Bool.noConfusion (hR.symm.trans k.1))); (obtain ⟨_, rfl⟩ := hc); (have r := row8_cells H8.out.res); (obtain ⟨r0, r1, r2, r3, r4, r5, r6, r7⟩ := r); (have rf := fun j => Go.Joins.unfrozen_of_block H8.out.res j); (have t := row8_cells H8.out.row); (obtain ⟨t0, t1, t2, t3, t4, t5, t6, t7⟩ := t)))
                have hL := mload (row8_set (.int .i64 0) (.int .i64 0) (.int .i64 0) (.int .i64 0) (.int .i64 0) (.int .i64 0) (.int .i64 0) (.slice none 0 0) H8.out.res)
                refine bodyPost_ret (v := .tuple #[.agg #[.int .i64 0, .int .i64 0, .int .i64 0, .int .i64 0, .int .i64 0, .int .i64 0, .int .i64 0, .slice none 0 0], .int .i64 92]) (by simp [results, Try.results77, asAddr, hL]) rfl ⟨below_set8 _ _ _ _ _ _ _ _ H8.out.bel (Nat.le_refl _), .inl ⟨by rw [hd.out]; decide, by rw [hd.out]⟩⟩
              | true =>
                cases hE : (encP (rdGe xs) (rdPh xs) (rdTg xs) (rdTx xs) (rdRt xs) (rdPg xs) (rdLi xs) (rdCu xs) == xs) with
                | false =>
                  have hd := Aside0.mk (show decE xs = 92 from by unfold decE; rw [if_pos hd0.out, if_pos q3.out, if_pos g12.out, if_neg (fun k => by rw [k.2, beq_self_eq_true] at hE; exact Bool.noConfusion hE)])
                  go_wp2_with (first | (go_at_call 96; first | ((with_reducible refine (hasPrefix_any A 256 c xs _ 4 4 magicL _ HM.out.1 HM.out.2).mono ?_); rintro e w2 ⟨rfl, rfl⟩; rw [p1]) | ((with_reducible refine (hasPrefix_any _ _ _ (xs.drop 248) _ 4 4 tailL _ HT.out.1 HT.out.2).mono ?_); rintro e w3 ⟨rfl, rfl⟩; rw [p2])) | (go_at_call 97; (with_reducible refine (sealed_any A 256 c xs 252 W HS.out).mono ?_); rintro e w4 ⟨rfl, hB4⟩; rw [k3]; (have H4 := Aside0.mk (And.intro (below_then HB3.out HB3.out.size hB4) ((hB4.block w.heap.size (Array.getElem?_eq_some_iff.1 hr3.out).1).trans hr3.out))); clear hB4; (have y := row8_cells H4.out.2); (obtain ⟨y0, y1, y2, y3, y4, y5, y6, y7⟩ := y); (have yf := fun j => Go.Joins.unfrozen_of_block H4.out.2 j)) | (go_at_call 98; (with_reducible refine (mread256 A c xs w4 (HX.out.below H4.out.1) hd0.out.1).mono ?_); rintro e w5 ⟨hB5, A1, c1, rfl, hO5⟩; (have H5 := Aside0.mk (And.intro (below_then H4.out.1 H4.out.1.size hB5) (And.intro ((hB5.block w.heap.size (Array.getElem?_eq_some_iff.1 H4.out.2).1).trans H4.out.2) hO5))); clear hB5 hO5; (have H6 := Aside0.mk (show MB w w5.heap.size A1 c1 xs (w5.alloc (.cells #[.int .i64 (rdGe xs), .int .i64 (rdPh xs), .int .i64 (rdTg xs), .int .i64 (rdTx xs), .int .i64 (rdRt xs), .int .i64 (rdPg xs), .int .i64 (rdLi xs), .slice A1 (rdCu xs).length c1] 36)) from ⟨H5.out.1.alloc H5.out.1.size _, (Below.heap_alloc _ _ _ (Array.getElem?_eq_some_iff.1 H5.out.2.1).1).trans H5.out.2.1, heap_alloc_new _ _, (H5.out.2.2.mono (Array.getElem?_eq_some_iff.1 H4.out.2).1).alloc _, (Array.getElem?_eq_some_iff.1 H5.out.2.1).1⟩)); (obtain ⟨w6, hw6⟩ : ∃ W, w5.alloc (.cells #[.int .i64 (rdGe xs), .int .i64 (rdPh xs), .int .i64 (rdTg xs), .int .i64 (rdTx xs), .int .i64 (rdRt xs), .int .i64 (rdPg xs), .int .i64 (rdLi xs), .slice A1 (rdCu xs).length c1] 36) = W := ⟨_, rfl⟩); rw [hw6] at H6; (have z := row8_cells H6.out.row); (obtain ⟨z0, z1, z2, z3, z4, z5, z6, z7⟩ := z); (have u := row8_cells H6.out.res); (obtain ⟨u0, u1, u2, u3, u4, u5, u6, u7⟩ := u); (have uf := fun j => Go.Joins.unfrozen_of_block H6.out.res j)) | (go_at_call 99; (with_reducible refine (gen_any (rdGe xs) w6).mono ?_); rintro e w7 ⟨rfl, rfl⟩; rw [g1]) | (go_at_call 43; (with_reducible refine (mencode_any (rdGe xs) (rdPh xs) (rdTg xs) (rdTx xs) (rdRt xs) (rdPg xs) (rdLi xs) A1 (rdCu xs).length c1 (rdCu xs) w6 H6.out.own.bs).mono ?_); rintro e w8 ⟨hB8, hc⟩; (have H8 := Aside0.mk (H6.out.step hB8)); clear hB8; (have hc := hc.resolve_left (fun k => Bool.noConfusion (hR.symm.trans k.1))); (obtain ⟨_, A2, c2, rfl, hO2⟩ := hc); (have HO := Aside0.mk hO2); clear hO2; (have r := row8_cells H8.out.res); (obtain ⟨r0, r1, r2, r3, r4, r5, r6, r7⟩ := r); (have rf := fun j => Go.Joins.unfrozen_of_block H8.out.res j); (have t := row8_cells H8.out.row); (obtain ⟨t0, t1, t2, t3, t4, t5, t6, t7⟩ := t)) | (go_at_call 37; (with_reducible refine (equal8_any _ _ _ _ A 256 c xs w8 HO.out.bs (HX.out.below H8.out.bel)).mono ?_); rintro e w9 ⟨rfl, rfl⟩; rw [hE]))
                  have hL := mload (row8_set (.int .i64 0) (.int .i64 0) (.int .i64 0) (.int .i64 0) (.int .i64 0) (.int .i64 0) (.int .i64 0) (.slice none 0 0) H8.out.res)
                  refine bodyPost_ret (v := .tuple #[.agg #[.int .i64 0, .int .i64 0, .int .i64 0, .int .i64 0, .int .i64 0, .int .i64 0, .int .i64 0, .slice none 0 0], .int .i64 92]) (by simp [results, Try.results77, asAddr, hL]) rfl ⟨below_set8 _ _ _ _ _ _ _ _ H8.out.bel (Nat.le_refl _), .inl ⟨by rw [hd.out]; decide, by rw [hd.out]⟩⟩
                | true =>
                  have hd := Aside0.mk (show decE xs = 0 from by unfold decE; rw [if_pos hd0.out, if_pos q3.out, if_pos g12.out, if_pos ⟨hR, beq_iff_eq.1 hE⟩])
                  go_wp2_with (first | (go_at_call 96; first | ((with_reducible refine (hasPrefix_any A 256 c xs _ 4 4 magicL _ HM.out.1 HM.out.2).mono ?_); rintro e w2 ⟨rfl, rfl⟩; rw [p1]) | ((with_reducible refine (hasPrefix_any _ _ _ (xs.drop 248) _ 4 4 tailL _ HT.out.1 HT.out.2).mono ?_); rintro e w3 ⟨rfl, rfl⟩; rw [p2])) | (go_at_call 97; (with_reducible refine (sealed_any A 256 c xs 252 W HS.out).mono ?_); rintro e w4 ⟨rfl, hB4⟩; rw [k3]; (have H4 := Aside0.mk (And.intro (below_then HB3.out HB3.out.size hB4) ((hB4.block w.heap.size (Array.getElem?_eq_some_iff.1 hr3.out).1).trans hr3.out))); clear hB4; (have y := row8_cells H4.out.2); (obtain ⟨y0, y1, y2, y3, y4, y5, y6, y7⟩ := y); (have yf := fun j => Go.Joins.unfrozen_of_block H4.out.2 j)) | (go_at_call 98; (with_reducible refine (mread256 A c xs w4 (HX.out.below H4.out.1) hd0.out.1).mono ?_); rintro e w5 ⟨hB5, A1, c1, rfl, hO5⟩; (have H5 := Aside0.mk (And.intro (below_then H4.out.1 H4.out.1.size hB5) (And.intro ((hB5.block w.heap.size (Array.getElem?_eq_some_iff.1 H4.out.2).1).trans H4.out.2) hO5))); clear hB5 hO5; (have H6 := Aside0.mk (show MB w w5.heap.size A1 c1 xs (w5.alloc (.cells #[.int .i64 (rdGe xs), .int .i64 (rdPh xs), .int .i64 (rdTg xs), .int .i64 (rdTx xs), .int .i64 (rdRt xs), .int .i64 (rdPg xs), .int .i64 (rdLi xs), .slice A1 (rdCu xs).length c1] 36)) from ⟨H5.out.1.alloc H5.out.1.size _, (Below.heap_alloc _ _ _ (Array.getElem?_eq_some_iff.1 H5.out.2.1).1).trans H5.out.2.1, heap_alloc_new _ _, (H5.out.2.2.mono (Array.getElem?_eq_some_iff.1 H4.out.2).1).alloc _, (Array.getElem?_eq_some_iff.1 H5.out.2.1).1⟩)); (obtain ⟨w6, hw6⟩ : ∃ W, w5.alloc (.cells #[.int .i64 (rdGe xs), .int .i64 (rdPh xs), .int .i64 (rdTg xs), .int .i64 (rdTx xs), .int .i64 (rdRt xs), .int .i64 (rdPg xs), .int .i64 (rdLi xs), .slice A1 (rdCu xs).length c1] 36) = W := ⟨_, rfl⟩); rw [hw6] at H6; (have z := row8_cells H6.out.row); (obtain ⟨z0, z1, z2, z3, z4, z5, z6, z7⟩ := z); (have u := row8_cells H6.out.res); (obtain ⟨u0, u1, u2, u3, u4, u5, u6, u7⟩ := u); (have uf := fun j => Go.Joins.unfrozen_of_block H6.out.res j)) | (go_at_call 99; (with_reducible refine (gen_any (rdGe xs) w6).mono ?_); rintro e w7 ⟨rfl, rfl⟩; rw [g1]) | (go_at_call 43; (with_reducible refine (mencode_any (rdGe xs) (rdPh xs) (rdTg xs) (rdTx xs) (rdRt xs) (rdPg xs) (rdLi xs) A1 (rdCu xs).length c1 (rdCu xs) w6 H6.out.own.bs).mono ?_); rintro e w8 ⟨hB8, hc⟩; (have H8 := Aside0.mk (H6.out.step hB8)); clear hB8; (have hc := hc.resolve_left (fun k => Bool.noConfusion (hR.symm.trans k.1))); (obtain ⟨_, A2, c2, rfl, hO2⟩ := hc); (have HO := Aside0.mk hO2); clear hO2; (have r := row8_cells H8.out.res); (obtain ⟨r0, r1, r2, r3, r4, r5, r6, r7⟩ := r); (have rf := fun j => Go.Joins.unfrozen_of_block H8.out.res j); (have t := row8_cells H8.out.row); (obtain ⟨t0, t1, t2, t3, t4, t5, t6, t7⟩ := t)) | (go_at_call 37; (with_reducible refine (equal8_any _ _ _ _ A 256 c xs w8 HO.out.bs (HX.out.below H8.out.bel)).mono ?_); rintro e w9 ⟨rfl, rfl⟩; rw [hE]))
                  have hL := mload (row8_set (.int .i64 (rdGe xs)) (.int .i64 (rdPh xs)) (.int .i64 (rdTg xs)) (.int .i64 (rdTx xs)) (.int .i64 (rdRt xs)) (.int .i64 (rdPg xs)) (.int .i64 (rdLi xs)) (.slice A1 (rdCu xs).length c1) H8.out.res)
                  refine bodyPost_ret (v := .tuple #[.agg #[.int .i64 (rdGe xs), .int .i64 (rdPh xs), .int .i64 (rdTg xs), .int .i64 (rdTx xs), .int .i64 (rdRt xs), .int .i64 (rdPg xs), .int .i64 (rdLi xs), .slice A1 (rdCu xs).length c1], .int .i64 0]) (by simp [results, Try.results77, asAddr, hL]) rfl ⟨below_set8 _ _ _ _ _ _ _ _ H8.out.bel (Nat.le_refl _), .inr ⟨hd.out, A1, c1, rfl, (H8.out.own.only_lo (only_set8 _ _ _ _ _ _ _ _) (Nat.lt_succ_self _)).mono (Nat.le_succ _)⟩⟩
            · have d2 : decide (3 < rdTg xs) = true := decide_eq_true (by omega)
              have hd := Aside0.mk (show decE xs = 93 from by unfold decE; rw [if_pos hd0.out, if_pos q3.out, if_neg (fun k => g2 k.2)])
              clear g2
              go_wp2_with (first | (go_at_call 96; first | ((with_reducible refine (hasPrefix_any A 256 c xs _ 4 4 magicL _ HM.out.1 HM.out.2).mono ?_); rintro e w2 ⟨rfl, rfl⟩; rw [p1]) | ((with_reducible refine (hasPrefix_any _ _ _ (xs.drop 248) _ 4 4 tailL _ HT.out.1 HT.out.2).mono ?_); rintro e w3 ⟨rfl, rfl⟩; rw [p2])) | (go_at_call 97; (with_reducible refine (sealed_any A 256 c xs 252 W HS.out).mono ?_); rintro e w4 ⟨rfl, hB4⟩; rw [k3]; (have H4 := Aside0.mk (And.intro (below_then HB3.out HB3.out.size hB4) ((hB4.block w.heap.size (Array.getElem?_eq_some_iff.1 hr3.out).1).trans hr3.out))); clear hB4; (have y := row8_cells H4.out.2); (obtain ⟨y0, y1, y2, y3, y4, y5, y6, y7⟩ := y); (have yf := fun j => Go.Joins.unfrozen_of_block H4.out.2 j)) | (go_at_call 98; (with_reducible refine (mread256 A c xs w4 (HX.out.below H4.out.1) hd0.out.1).mono ?_); rintro e w5 ⟨hB5, A1, c1, rfl, hO5⟩; (have H5 := Aside0.mk (And.intro (below_then H4.out.1 H4.out.1.size hB5) (And.intro ((hB5.block w.heap.size (Array.getElem?_eq_some_iff.1 H4.out.2).1).trans H4.out.2) hO5))); clear hB5 hO5; (have H6 := Aside0.mk (show MB w w5.heap.size A1 c1 xs (w5.alloc (.cells #[.int .i64 (rdGe xs), .int .i64 (rdPh xs), .int .i64 (rdTg xs), .int .i64 (rdTx xs), .int .i64 (rdRt xs), .int .i64 (rdPg xs), .int .i64 (rdLi xs), .slice A1 (rdCu xs).length c1] 36)) from ⟨H5.out.1.alloc H5.out.1.size _, (Below.heap_alloc _ _ _ (Array.getElem?_eq_some_iff.1 H5.out.2.1).1).trans H5.out.2.1, heap_alloc_new _ _, (H5.out.2.2.mono (Array.getElem?_eq_some_iff.1 H4.out.2).1).alloc _, (Array.getElem?_eq_some_iff.1 H5.out.2.1).1⟩)); (obtain ⟨w6, hw6⟩ : ∃ W, w5.alloc (.cells #[.int .i64 (rdGe xs), .int .i64 (rdPh xs), .int .i64 (rdTg xs), .int .i64 (rdTx xs), .int .i64 (rdRt xs), .int .i64 (rdPg xs), .int .i64 (rdLi xs), .slice A1 (rdCu xs).length c1] 36) = W := ⟨_, rfl⟩); rw [hw6] at H6; (have z := row8_cells H6.out.row); (obtain ⟨z0, z1, z2, z3, z4, z5, z6, z7⟩ := z); (have u := row8_cells H6.out.res); (obtain ⟨u0, u1, u2, u3, u4, u5, u6, u7⟩ := u); (have uf := fun j => Go.Joins.unfrozen_of_block H6.out.res j)) | (go_at_call 99; (with_reducible refine (gen_any (rdGe xs) w6).mono ?_); rintro e w7 ⟨rfl, rfl⟩; rw [g1]))
              have hL := mload (row8_set (.int .i64 0) (.int .i64 0) (.int .i64 0) (.int .i64 0) (.int .i64 0) (.int .i64 0) (.int .i64 0) (.slice none 0 0) H6.out.res)
              refine bodyPost_ret (v := .tuple #[.agg #[.int .i64 0, .int .i64 0, .int .i64 0, .int .i64 0, .int .i64 0, .int .i64 0, .int .i64 0, .slice none 0 0], .int .i64 93]) (by simp [results, Try.results77, asAddr, hL]) rfl ⟨below_set8 _ _ _ _ _ _ _ _ H6.out.bel (Nat.le_refl _), .inl ⟨by rw [hd.out]; decide, by rw [hd.out]⟩⟩
          · have g1' : genB (rdGe xs) = false := Bool.eq_false_iff.2 g1
            have hd := Aside0.mk (show decE xs = 93 from by unfold decE; rw [if_pos hd0.out, if_pos q3.out, if_neg (fun k => g1 k.1)])
            clear g1
            go_wp2_with (first | (go_at_call 96; first | ((with_reducible refine (hasPrefix_any A 256 c xs _ 4 4 magicL _ HM.out.1 HM.out.2).mono ?_); rintro e w2 ⟨rfl, rfl⟩; rw [p1]) | ((with_reducible refine (hasPrefix_any _ _ _ (xs.drop 248) _ 4 4 tailL _ HT.out.1 HT.out.2).mono ?_); rintro e w3 ⟨rfl, rfl⟩; rw [p2])) | (go_at_call 97; (with_reducible refine (sealed_any A 256 c xs 252 W HS.out).mono ?_); rintro e w4 ⟨rfl, hB4⟩; rw [k3]; (have H4 := Aside0.mk (And.intro (below_then HB3.out HB3.out.size hB4) ((hB4.block w.heap.size (Array.getElem?_eq_some_iff.1 hr3.out).1).trans hr3.out))); clear hB4; (have y := row8_cells H4.out.2); (obtain ⟨y0, y1, y2, y3, y4, y5, y6, y7⟩ := y); (have yf := fun j => Go.Joins.unfrozen_of_block H4.out.2 j)) | (go_at_call 98; (with_reducible refine (mread256 A c xs w4 (HX.out.below H4.out.1) hd0.out.1).mono ?_); rintro e w5 ⟨hB5, A1, c1, rfl, hO5⟩; (have H5 := Aside0.mk (And.intro (below_then H4.out.1 H4.out.1.size hB5) (And.intro ((hB5.block w.heap.size (Array.getElem?_eq_some_iff.1 H4.out.2).1).trans H4.out.2) hO5))); clear hB5 hO5; (have H6 := Aside0.mk (show MB w w5.heap.size A1 c1 xs (w5.alloc (.cells #[.int .i64 (rdGe xs), .int .i64 (rdPh xs), .int .i64 (rdTg xs), .int .i64 (rdTx xs), .int .i64 (rdRt xs), .int .i64 (rdPg xs), .int .i64 (rdLi xs), .slice A1 (rdCu xs).length c1] 36)) from ⟨H5.out.1.alloc H5.out.1.size _, (Below.heap_alloc _ _ _ (Array.getElem?_eq_some_iff.1 H5.out.2.1).1).trans H5.out.2.1, heap_alloc_new _ _, (H5.out.2.2.mono (Array.getElem?_eq_some_iff.1 H4.out.2).1).alloc _, (Array.getElem?_eq_some_iff.1 H5.out.2.1).1⟩)); (obtain ⟨w6, hw6⟩ : ∃ W, w5.alloc (.cells #[.int .i64 (rdGe xs), .int .i64 (rdPh xs), .int .i64 (rdTg xs), .int .i64 (rdTx xs), .int .i64 (rdRt xs), .int .i64 (rdPg xs), .int .i64 (rdLi xs), .slice A1 (rdCu xs).length c1] 36) = W := ⟨_, rfl⟩); rw [hw6] at H6; (have z := row8_cells H6.out.row); (obtain ⟨z0, z1, z2, z3, z4, z5, z6, z7⟩ := z); (have u := row8_cells H6.out.res); (obtain ⟨u0, u1, u2, u3, u4, u5, u6, u7⟩ := u); (have uf := fun j => Go.Joins.unfrozen_of_block H6.out.res j)) | (go_at_call 99; (with_reducible refine (gen_any (rdGe xs) w6).mono ?_); rintro e w7 ⟨rfl, rfl⟩; rw [g1']))
            have hL := mload (row8_set (.int .i64 0) (.int .i64 0) (.int .i64 0) (.int .i64 0) (.int .i64 0) (.int .i64 0) (.int .i64 0) (.slice none 0 0) H6.out.res)
            refine bodyPost_ret (v := .tuple #[.agg #[.int .i64 0, .int .i64 0, .int .i64 0, .int .i64 0, .int .i64 0, .int .i64 0, .int .i64 0, .slice none 0 0], .int .i64 93]) (by simp [results, Try.results77, asAddr, hL]) rfl ⟨below_set8 _ _ _ _ _ _ _ _ H6.out.bel (Nat.le_refl _), .inl ⟨by rw [hd.out]; decide, by rw [hd.out]⟩⟩
        · have k3 : (decide ((0 : Int) ≤ 252 ∧ (252 : Int) ≤ ((256 : Nat) : Int) - 4) && sealB xs 252 == xs) = false := by
            rw [beq_eq_false_iff_ne.2 p3, Bool.and_false]
          have hd := Aside0.mk (show decE xs = 91 from by unfold decE; rw [if_pos hd0.out, if_neg p3])
          clear p3
          go_enter Try.func77, Try.ntmps77
          go_wp2_with (first | (go_at_call 96; first | ((with_reducible refine (hasPrefix_any A 256 c xs _ 4 4 magicL _ HM.out.1 HM.out.2).mono ?_); rintro e w2 ⟨rfl, rfl⟩; rw [p1]) | ((with_reducible refine (hasPrefix_any _ _ _ (xs.drop 248) _ 4 4 tailL _ HT.out.1 HT.out.2).mono ?_); rintro e w3 ⟨rfl, rfl⟩; rw [p2])) | (go_at_call 97; (with_reducible refine (sealed_any A 256 c xs 252 W HS.out).mono ?_); rintro e w4 ⟨rfl, hB4⟩; rw [k3]; (have H4 := Aside0.mk (And.intro (below_then HB3.out HB3.out.size hB4) ((hB4.block w.heap.size (Array.getElem?_eq_some_iff.1 hr3.out).1).trans hr3.out))); clear hB4; (have y := row8_cells H4.out.2); (obtain ⟨y0, y1, y2, y3, y4, y5, y6, y7⟩ := y); (have yf := fun j => Go.Joins.unfrozen_of_block H4.out.2 j)))
          have hL := mload (row8_set (.int .i64 0) (.int .i64 0) (.int .i64 0) (.int .i64 0) (.int .i64 0) (.int .i64 0) (.int .i64 0) (.slice none 0 0) H4.out.2)
          refine bodyPost_ret (v := .tuple #[.agg #[.int .i64 0, .int .i64 0, .int .i64 0, .int .i64 0, .int .i64 0, .int .i64 0, .int .i64 0, .slice none 0 0], .int .i64 91]) (by simp [results, Try.results77, asAddr, hL]) rfl ⟨below_set8 _ _ _ _ _ _ _ _ H4.out.1 (Nat.le_refl _), .inl ⟨by rw [hd.out]; decide, by rw [hd.out]⟩⟩
  · have q : ((n : Int) == 256) = false := beq_eq_false_iff_ne.2 (by omega)
    have hd := Aside0.mk (show decE xs = 90 from if_neg (fun k => by omega))
    have hL := mload hr.out
    go_enter Try.func77, Try.ntmps77
    go_wp2
    refine bodyPost_ret (v := .tuple #[.agg #[.int .i64 0, .int .i64 0, .int .i64 0, .int .i64 0, .int .i64 0, .int .i64 0, .int .i64 0, .slice none 0 0], .int .i64 90]) (by simp [results, Try.results77, asAddr, hL]) rfl ⟨HB.out, .inl ⟨by rw [hd.out]; decide, by rw [hd.out]⟩⟩

end Go.Proofs.Ythhalmjapiempaa
