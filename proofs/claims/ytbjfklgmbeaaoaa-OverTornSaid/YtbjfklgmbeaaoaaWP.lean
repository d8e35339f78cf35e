/- ref08's ids: where a value's pages are. -/
import Derived.Test.YtbjfklgmbeaaoaaWO
set_option linter.unusedVariables false
set_option linter.unusedSimpArgs false
namespace Go.Proofs.Ytbjfklgmbeaaoaa
open Go.RowKit

def rIds (im : List UInt8) (g : Int) : Nat → Int → List Int
  | 0, _ => []
  | k + 1, id => if g = 3 then id :: rIds im g k (id + 1) else if (pgI im id).isSome = true ∧ hE ((pgI im id).getD []) = 0 then id :: rIds im g k (hNx ((pgI im id).getD [])) else [id]
set_option maxHeartbeats 8000000 in
set_option maxRecDepth 100000 in
theorem rids_any (A : Option Addr) (n c : Nat) (im : List UInt8) (g id : Int) (many : Nat) (w : World) (hb : Bs w A n c im) (hn : n ≤ 100000) (hm : many ≤ 100) (hid : -9223372036854775808 ≤ id ∧ id ≤ 9223372036854775807) (h3 : g = 3 → id ≤ 100000) :
    Calls Try.prog 51 #[.slice A n c, .int .i64 g, .int .i64 id, .int .i64 (many : Int)] w fun e w' => ∃ A1 c1, e = .returned (.slice A1 (rIds im g many id).length c1) ∧ Oc w' w.heap.size 3 1 A1 (rIds im g many id).length c1 (iv (rIds im g many id)) ∧ Below w.heap.size w w' := by
  have HB := Aside0.mk hb
  have HID := Aside0.mk h3
  clear hb h3
  go_enter Try.func51, Try.ntmps51
  go_wp2_with fail
  go_loopg [2, 9] many (fun gk v2 v9 wr => ∃ (j : Nat) (A2 : Option Addr) (c2 : Nat) (l : List Int) (idj : Int), Aside (gk + j = many) ∧ v2 = .int .i64 idj ∧ v9 = .slice A2 j c2 ∧ Aside0 (Below w.heap.size w wr ∧ l.length = j ∧ Oc wr w.heap.size 3 1 A2 j c2 (iv l) ∧ rIds im g many id = l ++ rIds im g (many - j) idj ∧ (-9223372036854775808 ≤ idj ∧ idj ≤ 9223372036854775807) ∧ (g = 3 → idj ≤ 100000 + (j : Int))))
  case atStart => exact ⟨0, none, 0, [], id, rfl, rfl, rfl, ⟨Below.refl _ _, rfl, Oc.nil _ _ _ _, rfl, hid, fun h => by have := HID.out h; omega⟩⟩
  case round =>
    obtain ⟨j, A2, c2, l, idj, hk, rfl, rfl, hI⟩ := hrel
    have hjm : j ≤ many := by have := hk.out; omega
    rcases Nat.lt_or_ge j many with hlt | hge
    · have dj : decide ((j : Int) < (many : Int)) = true := decide_eq_true (by omega)
      have djn : (j : Int) < (many : Int) := by omega
      obtain ⟨mj, hmj⟩ : ∃ x, many - j = x + 1 := ⟨many - j - 1, by omega⟩
      have HR := Aside0.mk (show rIds im g many id = l ++ rIds im g (mj + 1) idj by rw [← hmj]; exact hI.out.2.2.2.1)
      have HMJ := Aside0.mk hmj
      clear hmj
      have hroom : j + 1 ≤ 1000000000 := by omega
      by_cases q3 : g = 3
      · have d3 : (g == 3) = true := beq_iff_eq.2 q3
        have hb3 := hI.out.2.2.2.2.2 q3
        have wi : IntKind.i64.wrap (idj + 1) = idj + 1 := IntWalk.i64_in _ (by have := hI.out.2.2.2.2.1; omega)
        have HQ := Aside0.mk (And.intro q3 hb3)
        clear q3 hb3
        go_wp2_with (at_builtin; refine wpl_oc w.heap.size rfl _ _ 28 3 (.int .i64 0) 1 8 rfl Try.underlying28 infoI rfl (by omega) (by omega) (by omega) A2 j _ wr.heap.size (iv l) [.int .i64 idj] rfl rfl (hI.out.2.2.1.below ((Below.refl _ wr).alloc (Nat.le_refl _) _)) rfl (lit1_range _ _) (iv_one [idj]) (by have := hI.out.1.size; simp; omega) (by omega) ?_; intro A3 c3 w1 hO hG hA; (have hO1 : Oc w1 w.heap.size 3 1 A3 (j + 1) c3 (iv (l ++ [idj])) := (by rw [iv_app]; exact hO.out)); (have H1 := Aside0.mk (And.intro hO1 (hG.out.below hI.out.1 (fun k q => hI.out.2.2.1.lo k q) hI.out.1.size))); clear hO hG hA hO1)
        go_roundg (many - (j + 1))
        case measure => have := hk.out; omega
        case rel =>
          refine ⟨j + 1, A3, c3, l ++ [idj], idj + 1, (by show many - (j + 1) + (j + 1) = many; omega), rfl, rfl, ⟨H1.out.2, by rw [List.length_append, hI.out.2.1]; rfl, H1.out.1, ?_, by have := hI.out.2.2.2.2.1; have := HQ.out.2; omega, fun h => by have := HQ.out.2; omega⟩⟩
          rw [HR.out, rIds, if_pos HQ.out.1, show many - (j + 1) = mj by have := HMJ.out; omega, List.append_assoc]
          rfl
      · have d3 : (g == 3) = false := beq_eq_false_iff_ne.2 q3
        have HQ := Aside0.mk q3
        clear q3
        cases hp : pgI im idj with
        | none =>
          have HP := Aside0.mk hp
          have HE := Aside0.mk (show rIds im g many id = l ++ [idj] by rw [HR.out, rIds, if_neg HQ.out, hp, if_neg (fun h => by cases h.1)])
          have HH := Aside0.mk (show hV ([] : List UInt8) = #[.int .i64 0, .int .i64 0, .int .i64 0, .int .i64 0] from rfl)
          clear hp
          go_wp2_with (first
            | (at_builtin; refine wpl_oc w.heap.size rfl _ _ 28 3 (.int .i64 0) 1 8 rfl Try.underlying28 infoI rfl (by omega) (by omega) (by omega) A2 j _ wr.heap.size (iv l) [.int .i64 idj] rfl rfl (hI.out.2.2.1.below ((Below.refl _ wr).alloc (Nat.le_refl _) _)) rfl (lit1_range _ _) (iv_one [idj]) (by have := hI.out.1.size; simp; omega) (by omega) ?_; intro A3 c3 w1 hO hG hA; (have hO1 : Oc w1 w.heap.size 3 1 A3 (j + 1) c3 (iv (l ++ [idj])) := (by rw [iv_app]; exact hO.out)); (have H1 := Aside0.mk (And.intro hO1 (hG.out.below hI.out.1 (fun k q => hI.out.2.2.1.lo k q) hI.out.1.size))); clear hO hG hA hO1)
            | (go_at_call 18; refine (rPage_any A n c im idj w1 (HB.out.below H1.out.2) hn).mono ?_; rintro e w2 ⟨A4, c4, rfl, hb4, rfl⟩; (have hb4 := hb4 w1 (HB.out.below H1.out.2)); rw [HP.out] at hb4; rw [HP.out]; (have H4 := Aside0.mk hb4); clear hb4)
            | (go_at_call 26; refine (rHeadOf_any A4 0 c4 [] w1 H4.out).mono ?_; rintro e w5 ⟨rfl, hB⟩; rw [HH.out]; (have H5 := Aside0.mk hB); clear hB))
          go_ret
          rw [HE.out, List.length_append, hI.out.2.1]
          exact ⟨A3, c3, rfl, (H1.out.1.below H5.out).below ((Below.refl _ _).alloc (Nat.le_refl _) _), below_alloc (below_then H1.out.2 H1.out.2.size H5.out) (Nat.le_trans H1.out.2.size H5.out.size) _⟩
        | some q =>
          have HP := Aside0.mk hp
          obtain ⟨nq, hnq⟩ : ∃ x, q.length = x := ⟨_, rfl⟩
          by_cases qe : hE q = 0
          · have HH := Aside0.mk (show hV q = #[.int .i64 (hK q), .int .i64 (hG q), .int .i64 (hC q), .int .i64 (hNx q)] from if_pos qe)
            have b2 : (hE q != 0) = false := by rw [qe]; exact bne_self_eq_false _
            have HE := Aside0.mk (show rIds im g many id = (l ++ [idj]) ++ rIds im g mj (hNx q) by rw [HR.out, rIds, if_neg HQ.out, hp, if_pos ⟨rfl, qe⟩, List.append_assoc]; rfl)
            have HQE := Aside0.mk qe
            have HNQ := Aside0.mk hnq
            clear hp qe hnq
            go_upto_region 8 with (first
              | (at_builtin; refine wpl_oc w.heap.size rfl _ _ 28 3 (.int .i64 0) 1 8 rfl Try.underlying28 infoI rfl (by omega) (by omega) (by omega) A2 j _ wr.heap.size (iv l) [.int .i64 idj] rfl rfl (hI.out.2.2.1.below ((Below.refl _ wr).alloc (Nat.le_refl _) _)) rfl (lit1_range _ _) (iv_one [idj]) (by have := hI.out.1.size; simp; omega) (by omega) ?_; intro A3 c3 w1 hO hG hA; (have hO1 : Oc w1 w.heap.size 3 1 A3 (j + 1) c3 (iv (l ++ [idj])) := (by rw [iv_app]; exact hO.out)); (have H1 := Aside0.mk (And.intro hO1 (hG.out.below hI.out.1 (fun k q => hI.out.2.2.1.lo k q) hI.out.1.size))); clear hO hG hA hO1)
              | (go_at_call 18; refine (rPage_any A n c im idj w1 (HB.out.below H1.out.2) hn).mono ?_; rintro e w2 ⟨A4, c4, rfl, hb4, rfl⟩; (have hb4 := hb4 w1 (HB.out.below H1.out.2)); rw [HP.out, Option.getD_some, HNQ.out] at hb4; rw [HP.out, Option.getD_some, HNQ.out]; (have H4 := Aside0.mk hb4); clear hb4)
              | (go_at_call 26; refine (rHeadOf_any A4 nq c4 q w1 H4.out).mono ?_; rintro e w5 ⟨rfl, hB⟩; rw [HH.out]; (have H5 := Aside0.mk hB); clear hB))
            have hB6 := (Below.refl _ w5).alloc (Nat.le_refl _) (.cells #[.int .i64 (hK q), .int .i64 (hG q), .int .i64 (hC q), .int .i64 (hNx q)] 56)
            have hr6 := heap_alloc_new w5 (.cells #[.int .i64 (hK q), .int .i64 (hG q), .int .i64 (hC q), .int .i64 (hNx q)] 56)
            have hO6 := (H1.out.1.below H5.out).below hB6
            have hB7 := below_then (below_then H1.out.2 H1.out.2.size H5.out) (Nat.le_trans H1.out.2.size H5.out.size) hB6
            obtain ⟨w6, hw6⟩ : ∃ X, w5.alloc (.cells #[.int .i64 (hK q), .int .i64 (hG q), .int .i64 (hC q), .int .i64 (hNx q)] 56) = X := ⟨_, rfl⟩
            obtain ⟨M, hM⟩ : ∃ X, w5.heap.size = X := ⟨_, rfl⟩
            rw [hw6] at hr6 hO6 hB7
            rw [hM] at hr6
            rw [hw6, hM]
            have H6 := Aside0.mk (And.intro hO6 hB7)
            obtain ⟨y0, y1, y2, y3⟩ := item_cells2 hr6
            clear hr6 hO6 hB7 hB6 hw6 hM
            go_wp2_with fail
            go_roundg (many - (j + 1))
            case measure => have := hk.out; omega
            case rel => exact ⟨j + 1, A3, c3, l ++ [idj], hNx q, (by show many - (j + 1) + (j + 1) = many; omega), rfl, rfl, ⟨H6.out.2, by rw [List.length_append, hI.out.2.1]; rfl, H6.out.1, by rw [show many - (j + 1) = mj by have := HMJ.out; omega]; exact HE.out, hNx_bnd HQE.out, fun h => absurd h HQ.out⟩⟩
          · have HH := Aside0.mk (show hV q = #[.int .i64 0, .int .i64 0, .int .i64 0, .int .i64 0] from if_neg qe)
            have b2 : (hE q != 0) = true := bne_iff_ne.2 qe
            have HE := Aside0.mk (show rIds im g many id = l ++ [idj] by rw [HR.out, rIds, if_neg HQ.out, hp, if_neg (fun h => qe h.2)])
            have HNQ := Aside0.mk hnq
            clear hp qe hnq
            go_wp2_with (first
              | (at_builtin; refine wpl_oc w.heap.size rfl _ _ 28 3 (.int .i64 0) 1 8 rfl Try.underlying28 infoI rfl (by omega) (by omega) (by omega) A2 j _ wr.heap.size (iv l) [.int .i64 idj] rfl rfl (hI.out.2.2.1.below ((Below.refl _ wr).alloc (Nat.le_refl _) _)) rfl (lit1_range _ _) (iv_one [idj]) (by have := hI.out.1.size; simp; omega) (by omega) ?_; intro A3 c3 w1 hO hG hA; (have hO1 : Oc w1 w.heap.size 3 1 A3 (j + 1) c3 (iv (l ++ [idj])) := (by rw [iv_app]; exact hO.out)); (have H1 := Aside0.mk (And.intro hO1 (hG.out.below hI.out.1 (fun k q => hI.out.2.2.1.lo k q) hI.out.1.size))); clear hO hG hA hO1)
              | (go_at_call 18; refine (rPage_any A n c im idj w1 (HB.out.below H1.out.2) hn).mono ?_; rintro e w2 ⟨A4, c4, rfl, hb4, rfl⟩; (have hb4 := hb4 w1 (HB.out.below H1.out.2)); rw [HP.out, Option.getD_some, HNQ.out] at hb4; rw [HP.out, Option.getD_some, HNQ.out]; (have H4 := Aside0.mk hb4); clear hb4)
              | (go_at_call 26; refine (rHeadOf_any A4 nq c4 q w1 H4.out).mono ?_; rintro e w5 ⟨rfl, hB⟩; rw [HH.out]; (have H5 := Aside0.mk hB); clear hB))
            go_ret
            rw [HE.out, List.length_append, hI.out.2.1]
            exact ⟨A3, c3, rfl, (H1.out.1.below H5.out).below ((Below.refl _ _).alloc (Nat.le_refl _) _), below_alloc (below_then H1.out.2 H1.out.2.size H5.out) (Nat.le_trans H1.out.2.size H5.out.size) _⟩
    · obtain rfl : many = j := by omega
      have dj : decide ((many : Int) < (many : Int)) = false := by simp
      have HE := Aside0.mk (show rIds im g many id = l by rw [hI.out.2.2.2.1, Nat.sub_self, rIds, List.append_nil])
      go_wp2_with fail
      go_ret
      rw [HE.out, hI.out.2.1]
      exact ⟨A2, c2, rfl, hI.out.2.2.1, hI.out.1⟩
end Go.Proofs.Ytbjfklgmbeaaoaa
