/- The walk of alive of the laws on disks. -/
import Derived.Test.YtcegphnhohpegaaD14
set_option linter.unusedVariables false
set_option linter.unusedSimpArgs false
namespace Go.Proofs.Ytcegphnhohpegaa
open Go.RowKit

def dA0 : DV := ⟨limI 4, [], [], 0, -1, false⟩
def dA1 : DV := growD dA0 2
def dA2 : DV := writeD dA1 0 (List.replicate 128 1)
def dA3 : DV := crashD dA2 [true, false]
def dA4 : DV := armD dA3 0
def dA5 : DV := syncD dA4
theorem rb_lit (w : World) (N : Nat) (hN : w.heap.size = N) (C : Array Value) (T : TypeId) (n : Nat) (ks : List Bool) (hC : C = (ks.map Value.bool).toArray) (hn : ks.length = n) (hl : n ≤ 140737488355328) : Rb (w.alloc (.cells C T)) (some ⟨N, 0, none⟩) n n ks := by
  subst hN
  refine ⟨hn, Nat.le_refl _, by omega, hl, fun _ => ⟨_, rfl, fun j hj => ?_⟩⟩
  rw [add_plain, World.cell?_alloc_mark, hC]
  simp [List.getElem?_eq_getElem (show j < ks.length by omega), List.getD_eq_getElem?_getD]
theorem DH.lit {w0 : World} {g : Nat} {R : List (Nat × Obj)} {d : DV} {W : World} (h : DH w0 g R d W) (o : Obj) : DH w0 g ((W.heap.size, o) :: R) d (W.alloc o) := h.hold ((Below.refl _ W).alloc (Nat.le_refl _) o) _ o (Nat.le_refl _) (heap_alloc_new W o)
theorem Bs.blk {w w1 : World} {A : Option Addr} {n c : Nat} {xs : List UInt8} (h : Bs w A n c xs) (hb : ∀ a, A = some a → 0 < n → w1.heap[a.block]? = w.heap[a.block]?) : Bs w1 A n c xs :=
  ⟨h.len, h.le, h.cap, h.lim, fun hn => by
    obtain ⟨ad, e, hc⟩ := h.cells hn
    refine ⟨ad, e, fun j hj => ?_⟩
    rw [← hc j hj]
    exact World.cell?_of_block (by rw [add_block]; exact hb ad e hn)⟩
/-- A slice that a call made is held beside a disk. -/
theorem DH.ow {w0 : World} {g : Nat} {R : List (Nat × Obj)} {d : DV} {W W1 : World} {A : Option Addr} {n c : Nat} {xs : List UInt8} (h : DH w0 g R d W) (hB : Below W.heap.size W W1) (hO : Ow W1 W.heap.size A n c xs) (h0 : 0 < n) :
    ∃ i o, A = some ⟨i, 0, none⟩ ∧ W.heap.size ≤ i ∧ DH w0 g ((i, o) :: R) d W1 ∧ W1.heap[i]? = some o := by
  obtain ⟨i, e, h1, h2, _⟩ := hO.head h0
  obtain ⟨o, ho⟩ := h.holdx hB i h1 h2
  exact ⟨i, o, e, h1, ho, ho.row List.mem_cons_self⟩
set_option maxHeartbeats 4000000 in
set_option maxRecDepth 100000 in
theorem aliveD_any (w : World) : Calls Try.prog 8 #[] w fun e w' => e = .returned (.bool true) ∧ Below w.heap.size w w' := by
  have E1 := Aside0.mk (show growE dA0 2 = 0 by decide +kernel)
  have E2 := Aside0.mk (show writeE dA1 0 (List.replicate 128 1) = 0 by decide +kernel)
  have E3 := Aside0.mk (show dA2.row.length = 2 by decide +kernel)
  have E4 := Aside0.mk (show readE dA3 0 2 = 0 by decide +kernel)
  have E5 := Aside0.mk (show (readB dA3 0 2).length = 128 by decide +kernel)
  have E6 := Aside0.mk (show b8 (readB dA3 0 2) 0 = 1 by decide +kernel)
  have E7 := Aside0.mk (show b8 (readB dA3 0 2) 64 = 0 by decide +kernel)
  have E8 := Aside0.mk (show syncE dA4 = 10 by decide +kernel)
  have E9 := Aside0.mk (show dA5.down = true by decide +kernel)
  have E10 := Aside0.mk (show nD dA5 = 2 by decide +kernel)
  have E11 := Aside0.mk (show dA5.limit = 4 by decide +kernel)
  have E12 := Aside0.mk (show dA5.ops = 2 by decide +kernel)
  have B1 := Aside0.mk (show dA1.row.length + 128 ≤ 1000000 ∧ 0 ≤ dA1.ops ∧ dA1.ops ≤ 1000000 ∧ dA1.fuse ≤ 9223372036854775807 by decide +kernel)
  have B4 := Aside0.mk (show 0 ≤ dA4.ops ∧ dA4.ops ≤ 1000000 ∧ dA4.fuse ≤ 9223372036854775807 by decide +kernel)
  go_enter Try.func8, Try.ntmps8
  go_wp2_with (first
    | (go_at_call 22; refine (new_h (w0 := w) 4 w (Below.refl _ _)).mono ?_; rintro e1 w1 ⟨g, rfl, hH, _⟩; (have H1 := Aside0.mk (show DH w g [] dA0 w1 from hH)); clear hH)
    | (go_at_call 23; refine (grow_h H1.out 2).mono ?_; rintro e2 w2 ⟨rfl, hH⟩; rw [E1.out]; (have H2 := Aside0.mk (show DH w g [] dA1 w2 from hH)); clear hH)
    | (go_at_call 24; refine (repeat_one 128 _ 1 1 _ (Bs.lit w2 _ rfl _ _ _ 1 1 [1] rfl rfl (by omega) (by omega) (by omega)) (by omega) (by omega) mul_128).mono ?_; rintro e3 w3 ⟨g3, rfl, hg3, hg3l, hb3, hB3⟩; (have hBB := below_then ((Below.refl _ w2).alloc (Nat.le_refl _) _) (by simp) hB3); (obtain ⟨o3, hh⟩ := H2.out.holdx hBB g3 (Nat.le_trans (by simp) hg3) hg3l); (have H3 := Aside0.mk (And.intro hh hb3)); clear hg3 hg3l hb3 hB3 hBB hh)
    | (go_at_call 13; refine (write_h H3.out.1 0 _ 128 128 _ H3.out.2 (fun _ a e => by injection e with e; rw [← e]; exact .inr ⟨o3, List.mem_cons_self⟩) B1.out.1 B1.out.2.1 B1.out.2.2.1 B1.out.2.2.2).mono ?_; rintro e4 w4 ⟨rfl, hH⟩; rw [E2.out]; (have H4 := Aside0.mk (show DH w g _ dA2 w4 from hH)); clear hH)
    | (go_at_call 20; refine (pending_h H4.out).mono ?_; rintro e5 w5 ⟨rfl, rfl⟩; rw [E3.out])
    | (go_at_call 14; refine (crash_h (H4.out.lit _) _ 2 2 [true, false] (rb_lit w4 _ rfl _ _ 2 [true, false] rfl rfl (by omega)) (fun _ a e => by injection e with e; rw [← e]; exact .inr ⟨_, List.mem_cons_self⟩)).mono ?_; rintro e6 w6 ⟨rfl, hH⟩; (have H6 := Aside0.mk (show DH w g _ dA3 w6 from hH)); clear hH)
    | (go_at_call 25; refine (read_h H6.out 0 2).mono ?_; rintro e7 w7 ⟨A7, c7, rfl, hO, hB⟩; rw [E5.out] at hO; rw [E5.out, E4.out]; (obtain ⟨iA, oA, rfl, hi, hh, hr⟩ := H6.out.ow hB hO (by omega)); (have H7 := Aside0.mk (And.intro hh (And.intro hr hO.bs))); clear hO hB hh hr hi)
    | (go_at_call 16; refine (arm_h H7.out.1 0).mono ?_; rintro e8 w8 ⟨rfl, hH⟩; (have H8 := Aside0.mk (show DH w g _ dA4 w8 from hH)); clear hH)
    | (go_at_call 10; refine (sync_h H8.out B4.out.1 B4.out.2.1 B4.out.2.2).mono ?_; rintro e9 w9 ⟨rfl, hH⟩; rw [E8.out]; (have H9 := Aside0.mk (show DH w g _ dA5 w9 from hH)); clear hH; (have hbs := H7.out.2.2.blk (w1 := w9) (fun a e _ => by injection e with e; rw [← e]; exact (H9.out.row List.mem_cons_self).trans H7.out.2.1.symm)); (obtain ⟨ad, e, hx⟩ := hbs.cells (by omega)); (injection e with e); (have x0 := hx 0 (by omega)); (have x1 := hx 64 (by omega)); rw [← e, add_plain, E6.out] at x0; rw [← e, add_plain, E7.out] at x1; clear hx hbs e)
    | (go_at_call 17; refine (down_h H9.out).mono ?_; rintro e10 w10 ⟨rfl, rfl⟩; rw [E9.out])
    | (go_at_call 12; refine (size_h H9.out).mono ?_; rintro e10 w10 ⟨rfl, rfl⟩; rw [E10.out])
    | (go_at_call 26; refine (limit_h H9.out).mono ?_; rintro e10 w10 ⟨rfl, rfl⟩; rw [E11.out])
    | (go_at_call 18; refine (ops_h H9.out).mono ?_; rintro e10 w10 ⟨rfl, rfl⟩; rw [E12.out])
    | fail)
  go_ret
  exact ⟨rfl, H9.out.bel⟩
end Go.Proofs.Ytcegphnhohpegaa
