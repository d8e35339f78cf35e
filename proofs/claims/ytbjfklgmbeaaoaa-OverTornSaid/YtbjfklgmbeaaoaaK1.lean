/- A slice of ints, looked through; page's known and summed. -/
import Derived.Test.YtbjfklgmbeaaoaaZ1
import Derived.Test.YtbjfklgmbeaaoaaZ2
import Derived.Test.YtbjfklgmbeaaoaaZ3
import Derived.Test.YtbjfklgmbeaaoaaZ5
import Derived.Test.YtbjfklgmbeaaoaaZ7
set_option linter.unusedVariables false
set_option linter.unusedSimpArgs false
namespace Go.Proofs.Ytbjfklgmbeaaoaa
open Go.RowKit

def iv (zs : List Int) : List Value := zs.map fun z => .int .i64 z
theorem iv_len (zs : List Int) : (iv zs).length = zs.length := by simp [iv]
theorem iv_one (zs : List Int) : ∀ v, v ∈ iv zs → v.oneCell' = true := fun v h => by
  obtain ⟨z, _, rfl⟩ := List.mem_map.1 h
  rfl
theorem iv_app (a b : List Int) : iv (a ++ b) = iv a ++ iv b := by simp [iv]
theorem Rc.int {w : World} {A : Option Addr} {n c : Nat} {zs : List Int} (h : Rc w 1 A n c (iv zs)) (j : Nat) (hj : j < n) : ∃ ad z, A = some ad ∧ zs[j]? = some z ∧ w.cell? (ad.add j) = some (.int .i64 z) := by
  obtain ⟨ad, e, hc⟩ := h.cells (by omega)
  have hl := h.len
  rw [iv_len] at hl
  have hz : zs[j]? = some zs[j] := List.getElem?_eq_getElem (by omega)
  exact ⟨ad, zs[j], e, hz, hc j _ (by unfold iv; rw [List.getElem?_map, hz]; rfl)⟩
theorem Rc.take1 {w : World} {A : Option Addr} {n c : Nat} {zs : List Int} (h : Rc w 1 A n c (iv zs)) (j : Nat) (hj : j ≤ n) : Rc w 1 A j c (iv (zs.take j)) := by
  have hl := h.len
  rw [iv_len] at hl
  refine ⟨by rw [iv_len, List.length_take]; omega, by have := h.le; omega, h.cap, by have := h.lim; omega, iv_one _, fun h0 => ?_⟩
  obtain ⟨ad, e, hc⟩ := h.cells (by omega)
  refine ⟨ad, e, fun i u hu => hc i u ?_⟩
  unfold iv at hu ⊢
  rw [List.getElem?_map] at hu ⊢
  obtain ⟨z, hz, rfl⟩ := Option.map_eq_some_iff.1 hu
  obtain ⟨hi, rfl⟩ := List.getElem?_eq_some_iff.1 hz
  rw [List.length_take] at hi
  rw [List.getElem_take, List.getElem?_eq_getElem (by omega)]
  rfl
def idxI (zs : List Int) (x : Int) : Int := if zs.contains x = true then (zs.findIdx (· == x) : Int) else -1
set_option maxHeartbeats 4000000 in
set_option maxRecDepth 100000 in
theorem index_any (A : Option Addr) (n c : Nat) (zs : List Int) (x : Int) (w : World) (h : Rc w 1 A n c (iv zs)) :
    Calls Try.prog 116 #[.slice A n c, .int .i64 x] w fun e w' => (∃ i : Int, e = .returned (.int .i64 i) ∧ decide (0 ≤ i) = zs.contains x) ∧ w = w' := by
  have hlim := h.lim
  have hl := h.len
  rw [iv_len] at hl
  have HR := Aside0.mk h
  have HL := Aside0.mk hl
  clear h hl
  go_enter Try.func116, Try.ntmps116
  go_wp2_with fail
  go_loopg [8] n (fun gk v8 wr => ∃ (j : Nat), Aside (gk + j = n) ∧ v8 = .int .i64 (j : Int) ∧ Aside0 (w = wr ∧ (zs.take j).contains x = false))
  case atStart => exact ⟨0, rfl, rfl, ⟨rfl, by simp⟩⟩
  case round =>
    obtain ⟨j, hk, rfl, hI⟩ := hrel
    have hjm : j ≤ n := by have := hk.out; omega
    have hw := hI.out.1
    subst hw
    rcases Nat.lt_or_ge j n with hlt | hge
    · have d1 : decide ((j : Int) < (n : Int)) = true := decide_eq_true (by omega)
      have hjn : (j : Int) < (n : Int) := by omega
      obtain ⟨ad, z, rfl, hz, c0⟩ := HR.out.int j hlt
      have HZ := Aside0.mk hz
      clear hz
      by_cases qz : x = z
      · have g1 : (x == z) = true := beq_iff_eq.2 qz
        have HQ := Aside0.mk qz
        clear qz
        go_wp2_with fail
        go_ret
        refine ⟨⟨_, rfl, ?_⟩, rfl⟩
        rw [HQ.out]
        exact ⟨fun _ => List.mem_of_getElem? HZ.out, fun _ => by omega⟩
      · have g1 : (x == z) = false := beq_eq_false_iff_ne.2 qz
        have HQ := Aside0.mk qz
        clear qz
        go_wp2_with fail
        go_roundg (n - (j + 1))
        case measure => have := hk.out; omega
        case rel =>
          refine ⟨j + 1, (by show n - (j + 1) + (j + 1) = n; omega), by go_num, ⟨rfl, ?_⟩⟩
          rw [List.take_add_one, HZ.out, Option.toList_some, List.contains_append, hI.out.2, Bool.false_or]
          simp only [List.contains_cons, List.contains_nil, Bool.or_false]
          exact beq_eq_false_iff_ne.2 HQ.out
    · obtain rfl : n = j := by omega
      have d1 : decide ((n : Int) < (n : Int)) = false := by simp
      have h9 := hI.out.2
      rw [List.take_of_length_le (by have := HL.out; omega)] at h9
      have H9 := Aside0.mk h9
      clear h9
      go_wp2_with fail
      go_ret
      exact ⟨⟨_, rfl, fun q => absurd q (by decide), fun q => by have := H9.out; rw [List.contains_iff_mem.2 q] at this; cases this⟩, rfl⟩
set_option maxHeartbeats 4000000 in
set_option maxRecDepth 100000 in
theorem contains_any (A : Option Addr) (n c : Nat) (zs : List Int) (x : Int) (w : World) (h : Rc w 1 A n c (iv zs)) :
    Calls Try.prog 94 #[.slice A n c, .int .i64 x] w fun e w' => e = .returned (.bool (zs.contains x)) ∧ w = w' := by
  have HR := Aside0.mk h
  clear h
  go_enter Try.func94, Try.ntmps94
  go_wp2_with (go_at_call 116; refine (index_any A n c zs x w HR.out).mono ?_; rintro e w1 ⟨⟨i, rfl, hi⟩, rfl⟩; (have HI := Aside0.mk hi); clear hi)
  go_ret
  refine ⟨?_, rfl⟩
  show Ending.returned (.bool (decide (0 ≤ i))) = _
  rw [HI.out]
theorem rc_lit1 {W : World} (zs : List Int) (n : Nat) (hn : zs.length = n) (hl : n ≤ 1000000000) (C : Array Value) (TT : TypeId) (fr : Nat × Nat) (hC : C = (iv zs).toArray) : Rc (W.alloc (.cells C TT fr)) 1 (some ⟨W.heap.size, 0, none⟩) n n (iv zs) := by
  subst hC
  refine ⟨by rw [iv_len, hn, Nat.mul_one], Nat.le_refl _, by omega, hl, iv_one _, fun _ => ⟨_, rfl, fun j u hu => ?_⟩⟩
  rw [add_plain, World.cell?_alloc_mark]
  simpa using hu
def knownB (k g : Int) : Bool := [76, 66, 79, 70].contains k && genB g
set_option maxHeartbeats 4000000 in
set_option maxRecDepth 100000 in
theorem known_any (k g ct nx : Int) (w : World) :
    Calls Try.prog 61 #[.agg #[.int .i64 k, .int .i64 g, .int .i64 ct, .int .i64 nx]] w fun e w' => e = .returned (.bool (knownB k g)) ∧ Below w.heap.size w w' := by
  unfold knownB
  go_enter Try.func61, Try.ntmps61
  go_upto_region 1 with fail
  have hB1 := (Below.refl _ w).alloc (Nat.le_refl _) (.cells #[.int .i64 k, .int .i64 g, .int .i64 ct, .int .i64 nx] 53)
  have HR := Aside0.mk (heap_alloc_new w (.cells #[.int .i64 k, .int .i64 g, .int .i64 ct, .int .i64 nx] 53))
  obtain ⟨w1, hw1⟩ : ∃ X, w.alloc (.cells #[.int .i64 k, .int .i64 g, .int .i64 ct, .int .i64 nx] 53) = X := ⟨_, rfl⟩
  obtain ⟨N, hN⟩ : ∃ X, w.heap.size = X := ⟨_, rfl⟩
  rw [hw1, hN] at HR
  rw [hw1, hN] at hB1
  rw [hw1, hN]
  have hr := HR.out
  obtain ⟨y0, y1, y2, y3⟩ := item_cells2 hr
  have hB2 := (Below.refl _ w1).alloc (Nat.le_refl _) (.cells #[.int .i64 76, .int .i64 66, .int .i64 79, .int .i64 70] 3)
  have HL := Aside0.mk (rc_lit1 (W := w1) [76, 66, 79, 70] 4 rfl (by omega) #[.int .i64 76, .int .i64 66, .int .i64 79, .int .i64 70] 3 (0, 0) rfl)
  have y0' := cell_below hB2 y0
  have y1' := cell_below hB2 y1
  have HB := Aside0.mk (below_then hB1 (by rw [← hN]; exact hB1.size) hB2)
  have hN' := Aside0.mk hN
  clear hB1 hB2 hw1 hr hN
  cases hk : [76, 66, 79, 70].contains k with
  | false =>
    have HK := Aside0.mk hk
    clear hk
    go_wp2_with (go_at_call 94; refine (contains_any _ 4 4 [76, 66, 79, 70] k _ HL.out).mono ?_; rintro e w3 ⟨rfl, rfl⟩; rw [HK.out])
    go_ret
    rw [hN'.out]
    refine ⟨?_, HB.out⟩
    show Ending.returned (.bool false) = .returned (.bool ([76, 66, 79, 70].contains k && genB g))
    rw [HK.out]
    rfl
  | true =>
    have HK := Aside0.mk hk
    clear hk
    go_wp2_with (first | (go_at_call 94; refine (contains_any _ 4 4 [76, 66, 79, 70] k _ HL.out).mono ?_; rintro e w3 ⟨rfl, rfl⟩; rw [HK.out]) | (go_at_call 38; refine (gen_any g _).mono ?_; rintro e w3 ⟨rfl, rfl⟩))
    go_ret
    rw [hN'.out]
    refine ⟨?_, HB.out⟩
    show Ending.returned (.bool (genB g)) = .returned (.bool ([76, 66, 79, 70].contains k && genB g))
    rw [HK.out]
    rfl
set_option maxRecDepth 100000 in
theorem summed_any (g : Int) (w : World) : Calls Try.prog 62 #[.int .i64 g] w fun e w' => e = .returned (.bool (decide (1 < g))) ∧ w = w' := by
  go_enter Try.func62, Try.ntmps62
  go_wp2
  go_ret
  exact ⟨rfl, rfl⟩
end Go.Proofs.Ytbjfklgmbeaaoaa
