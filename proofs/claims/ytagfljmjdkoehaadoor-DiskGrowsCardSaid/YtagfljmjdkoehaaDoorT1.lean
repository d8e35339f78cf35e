/- bytes.HasPrefix; bytes.Trim where all is trimmed. -/
import Derived.Test.YtagfljmjdkoehaaDoorZ1
set_option linter.unusedVariables false
set_option linter.unusedSimpArgs false
namespace Go.Proofs.YtagfljmjdkoehaaDoor
open Go.RowKit

def pre8 (xs ys : List UInt8) : Bool := decide (ys.length ≤ xs.length ∧ xs.take ys.length = ys)
set_option maxHeartbeats 1000000 in
set_option maxRecDepth 100000 in
theorem hasPrefix_any (A : Option Addr) (n c : Nat) (xs : List UInt8) (B : Option Addr) (m d : Nat) (ys : List UInt8) (w : World) (hx : Bs w A n c xs) (hy : Bs w B m d ys) :
    Calls Tryd.prog 10 #[.slice A n c, .slice B m d] w fun e w' => e = .returned (.bool (pre8 xs ys)) ∧ w = w' := by
  have hln := hx.len
  have hlm := hy.len
  have hl1 := hx.lim
  have hl2 := hy.lim
  by_cases h : m ≤ n
  · have f1 : decide (m ≤ n) = true := decide_eq_true h
    have s1 : ∀ W : World, (Instr.slice 27 (.slice A n c) none (some (.int .i64 (m : Int))) none).run Tryd.prog W = .ok (.slice A m c) W := fun W => by
      rw [sl8_h W A n c .i64 (m : Int) (by omega) (by have := hx.le; omega), Int.toNat_natCast]
    have hv := Aside0.mk (show pre8 xs ys = (xs.take m == ys) from by unfold pre8; rw [hlm, hln, Bool.eq_iff_iff, decide_eq_true_iff, beq_iff_eq]; exact ⟨fun k => k.2, fun k => ⟨h, k⟩⟩)
    have HX := Aside0.mk (And.intro (hx.take m h) hy)
    clear hx hy hln hlm h
    go_enter Tryd.func10, Tryd.ntmps10
    go_wp2_with (go_at_call 22; refine (equal8_any _ _ _ _ _ _ _ _ _ HX.out.1 HX.out.2).mono ?_; rintro e w1 ⟨rfl, rfl⟩)
    go_ret
    exact ⟨ret_bool hv.out.symm, rfl⟩
  · have f1 : decide (m ≤ n) = false := decide_eq_false h
    have hv := Aside0.mk (show pre8 xs ys = false from decide_eq_false (fun k => by omega))
    clear hx hy hln hlm h
    go_enter Tryd.func10, Tryd.ntmps10
    go_wp2
    go_ret
    exact ⟨ret_bool hv.out.symm, rfl⟩
set_option maxHeartbeats 1000000 in
set_option maxRecDepth 100000 in
theorem trimR_any (A : Option Addr) (n c : Nat) (w : World) (hx : Bs w A n c (List.replicate n 0)) :
    Calls Tryd.prog 31 #[.slice A n c, .int .u8 0] w fun e w' => e = .returned (.slice A 0 c) ∧ w = w' := by
  have hcap := hx.le
  have hccap := hx.cap
  have hlim := hx.lim
  have HC := Aside0.mk (show ∀ q, q < n → ∃ ad, A = some ad ∧ w.cell? (ad.add q) = some (.int .u8 0) from fun q hq => by
    obtain ⟨ad, e, hc⟩ := hx.cells (by omega)
    refine ⟨ad, e, ?_⟩
    rw [hc q hq]
    simp [b8, List.getD_eq_getElem?_getD, hq])
  clear hx
  go_enter Tryd.func31, Tryd.ntmps31
  go_wp2_with fail
  go_loopg [0] n (fun gk v0 wr => ∃ q : Nat, Aside (gk = q) ∧ Aside0 (q ≤ n) ∧ v0 = .slice A q c ∧ wr = w)
  case atStart => exact ⟨n, rfl, ⟨Nat.le_refl _⟩, rfl, rfl⟩
  case round =>
    obtain ⟨q, hk, hq, rfl, rfl⟩ := hrel
    cases q with
    | zero =>
      go_wp2_with fail
      go_ret
      exact ⟨rfl, rfl⟩
    | succ q =>
      obtain ⟨ad, rfl, cc⟩ := HC.out q (by have := hq.out; omega)
      have hqn := hq.out
      have i1 : IntKind.i64.wrap ((q : Int) + 1 - 1) = (q : Int) := by rw [Int.add_sub_cancel]; exact IntWalk.i64_in _ (by omega)
      have i2 : IntKind.i64.wrap (q : Int) = (q : Int) := IntWalk.i64_in _ (by omega)
      have t1 : ∀ W : World, (Instr.slice 27 (.slice (some ad) (q + 1) c) none (some (.int .i64 (q : Int))) none).run Tryd.prog W = .ok (.slice (some ad) q c) W := fun W => by
        rw [sl8_h W (some ad) (q + 1) c .i64 (q : Int) (by omega) (by omega), Int.toNat_natCast]
      clear hqn
      go_wp2_with fail
      go_roundg q
      case measure => have := hk.out; omega
      case rel => exact ⟨q, rfl, ⟨by have := hq.out; omega⟩, rfl, rfl⟩
set_option maxHeartbeats 1000000 in
set_option maxRecDepth 100000 in
theorem trimL_any (A : Option Addr) (c : Nat) (w : World) :
    Calls Tryd.prog 30 #[.slice A 0 c, .int .u8 0] w fun e w' => e = .returned (.slice none 0 0) ∧ w = w' := by
  go_enter Tryd.func30, Tryd.ntmps30
  go_wp2_with fail
  go_loopg [0] 0 (fun gk v0 wr => v0 = .slice A 0 c ∧ wr = w)
  case atStart => exact ⟨rfl, rfl⟩
  case round =>
    obtain ⟨rfl, rfl⟩ := hrel
    go_wp2_with fail
    go_ret
    exact ⟨rfl, rfl⟩
set_option maxHeartbeats 1000000 in
set_option maxRecDepth 100000 in
theorem trim_any (A : Option Addr) (n c : Nat) (w : World) (hx : Bs w A n c (List.replicate n 0)) :
    Calls Tryd.prog 13 #[.slice A n c, .string ⟨#[0]⟩] w fun e w' => e = .returned (.slice none 0 0) ∧ Below w.heap.size w w' := by
  have HX := Aside0.mk hx
  clear hx
  by_cases h0 : n = 0
  · subst h0
    go_enter Tryd.func13, Tryd.ntmps13
    go_wp2_with fail
    go_ret
    exact ⟨rfl, Below.refl _ _⟩
  · have g0 : ((n : Int) == 0) = false := beq_eq_false_iff_ne.2 (by omega)
    have cR : ∀ k : Ext w, Calls Tryd.prog 31 #[.slice A n c, .int .u8 0] k.w fun e w' => e = .returned (.slice A 0 c) ∧ k.w = w' := fun k => trimR_any A n c k.w (HX.out.ext k)
    have cL : ∀ k : Ext w, Calls Tryd.prog 30 #[.slice A 0 c, .int .u8 0] k.w fun e w' => e = .returned (.slice none 0 0) ∧ k.w = w' := fun k => trimL_any A c k.w
    go_enter Tryd.func13, Tryd.ntmps13
    go_upto_region 6 with fail
    refine wp_region_ext (by kernel_rfl) (by kernel_rfl) ?_
    repeat (go_big_quiet_step (first
      | (go_at_call 31; exact Calls.ext_same (cR _))
      | (go_at_call 30; exact Calls.ext_same (cL _))))
    refine wpQuiet_nil ?_
    rintro w' ⟨kx, rfl⟩
    go_wp2_with fail
    try go_ret
    exact ⟨rfl, kx.bel⟩
end Go.Proofs.YtagfljmjdkoehaaDoor
