/- The walk of the law CrcParts. -/
import Derived.Test.YtaoaenjhclicfaaA8
import Derived.Test.YtaoaenjhclicfaaP1
import Derived.Test.YtaoaenjhclicfaaR1
set_option linter.unusedVariables false
set_option linter.unusedSimpArgs false
namespace Go.Proofs.Ytaoaenjhclicfaa
open Go.RowKit

theorem upd00 : (0 : Int) = updI 0 [] := by decide +kernel
theorem take_flat (rows : List (List UInt8)) (j : Nat) (h : j < rows.length) : (rows.take (j + 1)).flatten = (rows.take j).flatten ++ rows.getD j [] := by
  rw [List.take_succ_eq_append_getElem h, List.flatten_append]
  simp [List.getD_eq_getElem?_getD, List.getElem?_eq_getElem h]

set_option maxHeartbeats 4000000 in
set_option maxRecDepth 100000 in
theorem crcParts_walk (A : Option Addr) (n c : Nat) (rows : List (List UInt8)) (w : World) (hb : Bss w A n c rows) :
    Calls Try.prog 4 #[.slice A n c] w fun e w' => e = .returned (.bool true) ∧ Below w.heap.size w w' := by
  have hlim := hb.lim
  have hb' := Aside0.mk hb
  clear hb
  go_enter Try.func4, Try.ntmps4
  go_wp2
  go_loopg [3, 4, 9] n (fun k v3 v4 v9 wr => ∃ (j : Nat) (A1 : Option Addr) (n1 c1 : Nat), Aside (k + j = n) ∧ v3 = .slice A1 n1 c1 ∧ v4 = .int .u32 (updI 0 (rows.take j).flatten) ∧ v9 = .int .i64 (j : Int) ∧ Aside (n1 ≤ 600) ∧ Aside0 (Ow wr w.heap.size A1 n1 c1 (rows.take j).flatten) ∧ Aside0 (Below w.heap.size w wr))
  case atStart => exact ⟨0, none, 0, 0, rfl, rfl, by rw [List.take_zero, List.flatten_nil, ← upd00], rfl, (show 0 ≤ 600 by omega), ⟨Ow.nil _ _⟩, ⟨Below.refl _ _⟩⟩
  case round =>
    obtain ⟨j, A1, n1, c1, hk, rfl, rfl, rfl, hn1, hO, hB⟩ := hrel
    have hjb : j ≤ n := by have := hk.out; omega
    have hn1' := hn1.out
    by_cases hlt : j < n
    · obtain ⟨ad, he, B, m, d, ca0, hrow⟩ := hb'.out.atN j hlt
      have ca := cell_below hB.out ca0
      clear ca0
      subst he
      have hmlim := hrow.lim
      have hrow' := Aside0.mk hrow
      clear hrow
      have hjn : (j : Int) < (n : Int) := by omega
      by_cases hbig : 600 < n1 + m
      · have hbig' : (600 : Int) < (n1 : Int) + (m : Int) := by omega
        go_wp2_with (go_at_call 15; refine (alive02_any _).mono ?_; rintro e w1 ⟨rfl, hB1⟩)
        go_ret
        exact ⟨rfl, below_then hB.out hB.out.size hB1⟩
      · have hbig' : (n1 : Int) + (m : Int) ≤ 600 := by omega
        have hua := Aside0.mk (updI_append (rows.take j).flatten (rows.getD j []))
        go_wp2_with (first | (at_builtin; refine wpl_a8 (w0 := w) w.heap.size rfl (.tmp 20) (.tmp 21) rfl A1 n1 c1 _ B m d _ (n1 + m) _ rfl rfl hO.out (hrow'.out.below hB.out) hB.out hB.out.size rfl (by omega) rfl ?_; intro A2 c2 w1 hO2 hB2) | (go_at_call 18; refine (update_any _ B m d _ _ ((hrow'.out.below hB2.out))).mono ?_; rintro e w2 ⟨rfl, hB3⟩; rw [hua.out]))
        go_roundg (n - (j + 1))
        case measure => have := hk.out; omega
        case rel =>
          refine ⟨j + 1, A2, n1 + m, c2, ?_, rfl, ?_, by go_num, ?_, ⟨?_⟩, ⟨?_⟩⟩
          · have := hk.out; exact (show n - (j + 1) + (j + 1) = n by omega)
          · rw [take_flat rows j (by rw [hb'.out.len]; exact hlt), List.getD_eq_getElem?_getD]
          · exact (show n1 + m ≤ 600 by omega)
          · rw [take_flat rows j (by rw [hb'.out.len]; exact hlt)]
            exact hO2.out.below hB3
          · exact below_then hB2.out hB2.out.size hB3
    · obtain rfl : j = n := by omega
      have hrow := Aside0.mk hO.out.bs
      have e1 := refOf_eq (rows.take j).flatten
      go_wp2_with (first | (go_at_call 15; refine (alive02_any _).mono ?_; rintro e w1 ⟨rfl, hB1⟩; (have HB1 := Aside0.mk (below_then hB.out hB.out.size hB1)); (have HO1 := Aside0.mk (hrow.out.below hB1)); clear hB1) | (go_at_call 17; refine (rof_any A1 n1 c1 _ _ HO1.out (by omega)).mono ?_; rintro e w2 ⟨rfl, hB2⟩; rw [e1]; (have HB2 := Aside0.mk (below_then HB1.out HB1.out.size hB2)); (have HO2 := Aside0.mk (HO1.out.below hB2)); clear hB2) | (go_at_call 16; refine (of_any A1 n1 c1 _ _ HO2.out).mono ?_; rintro e w3 ⟨rfl, hB3⟩; (have HB3 := Aside0.mk (below_then HB2.out HB2.out.size hB3)); clear hB3))
      go_ret
      exact ⟨ret_bool (by simp), HB3.out⟩
end Go.Proofs.Ytaoaenjhclicfaa
