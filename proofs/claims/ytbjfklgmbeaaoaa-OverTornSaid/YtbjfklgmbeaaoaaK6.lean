/- The walk of regaugeref07's Wrap. -/
import Derived.Test.YtbjfklgmbeaaoaaK5
set_option linter.unusedVariables false
set_option linter.unusedSimpArgs false
namespace Go.Proofs.Ytbjfklgmbeaaoaa
open Go.RowKit

theorem Ow.lits {w : World} {base N : Nat} (hN : w.heap.size = N) (h : base ≤ w.heap.size) (C : Array Value) (xs : List UInt8) (hC : C.toList = u8v xs) (n : Nat) (hn : xs.length = n) (hl : n ≤ 1000) : Ow (w.alloc (.cells C 5)) base (some ⟨N, 0, none⟩) n n xs := by
  subst hN
  have hs : C.size = n := by rw [← Array.length_toList, hC, u8v_length, hn]
  have h := World.ownsRow_lit (base := base) (e := 5) (size := 1) w C n h (by simp [maxLen]; omega) (by simp [hs])
  rw [hC] at h
  exact ⟨h, by omega⟩
def two8 (k g : Int) : List UInt8 := le8 k 1 ++ le8 g 1
theorem two_lit (k g : Int) : (#[.int .u8 (k % 256), .int .u8 (g % 256)] : Array Value).toList = u8v (two8 k g) := by
  have b1 : ∀ x : Int, (((UInt8.ofNat (x / 256 ^ 0 % 256).toNat).toNat : Nat) : Int) = x % 256 := fun x => by
    rw [UInt8.toNat_ofNat', Int.pow_zero, Int.ediv_one]
    omega
  unfold two8 le8 le8 u8v
  simp only [List.nil_append, List.cons_append, List.map_cons, List.map_nil, b1]
def rwHd (k g ct nx : Int) : List UInt8 := ((two8 k g ++ le8 ct 2) ++ (if 1 < g then le8 0 4 else [])) ++ le8 nx (iwI g).toNat
def rwBad (g ct nx : Int) (m : Nat) : Prop := cpI g < (m : Int) ∨ ct < 0 ∨ 65535 < ct ∨ nx < 0 ∨ (g = 1 ∧ 4294967295 < nx)
instance (g ct nx : Int) (m : Nat) : Decidable (rwBad g ct nx m) := by unfold rwBad; infer_instance
def rwE (k g ct nx : Int) (m : Nat) : Int := if knownB k g = true then (if rwBad g ct nx m then 73 else 0) else 70
def rwP (k g ct nx : Int) (ys : List UInt8) : List UInt8 := (rwHd k g ct nx ++ ys) ++ List.replicate (256 - (rwHd k g ct nx ++ ys).length) 0
def rwB (k g ct nx : Int) (ys : List UInt8) : List UInt8 := if rwE k g ct nx ys.length = 0 then (if 1 < g then rsealB (rwP k g ct nx ys) 4 else rwP k g ct nx ys) else []
set_option maxHeartbeats 8000000 in
set_option maxRecDepth 100000 in
theorem rwrap_any (k g ct nx : Int) (B : Option Addr) (m d : Nat) (ys : List UInt8) (w : World) (hb : Bs w B m d ys) (hc : -9223372036854775808 ≤ ct ∧ ct ≤ 9223372036854775807) (hx : -9223372036854775808 ≤ nx ∧ nx ≤ 9223372036854775807) :
    Calls Try.prog 36 #[.agg #[.int .i64 k, .int .i64 g, .int .i64 ct, .int .i64 nx], .slice B m d] w fun e w' => ∃ A1 c1, e = .returned (.tuple #[.slice A1 (rwB k g ct nx ys).length c1, .int .i64 (rwE k g ct nx m)]) ∧ Ow w' w.heap.size A1 (rwB k g ct nx ys).length c1 (rwB k g ct nx ys) ∧ Below w.heap.size w w' := by
  have hB0 := (Below.refl _ w).alloc (Nat.le_refl _) (.cells #[.int .i64 k, .int .i64 g, .int .i64 ct, .int .i64 nx] 56)
  have H0 := Aside0.mk (And.intro (heap_alloc_new w (.cells #[.int .i64 k, .int .i64 g, .int .i64 ct, .int .i64 nx] 56)) (And.intro hB0 (And.intro (show (w.alloc (.cells #[.int .i64 k, .int .i64 g, .int .i64 ct, .int .i64 nx] 56)).heap.size = w.heap.size + 1 by simp) (hb.below hB0))))
  have hml := hb.lim
  have HML := Aside0.mk hb.len
  have HCX := Aside0.mk (And.intro hc hx)
  clear hb hB0 hc hx
  go_enter Try.func36, Try.ntmps36
  go_upto_region 1 with fail
  obtain ⟨w0, hw0⟩ : ∃ X, w.alloc (.cells #[.int .i64 k, .int .i64 g, .int .i64 ct, .int .i64 nx] 56) = X := ⟨_, rfl⟩
  obtain ⟨N, hN⟩ : ∃ X, w.heap.size = X := ⟨_, rfl⟩
  rw [hw0, hN] at H0
  rw [hw0, hN]
  have HN := Aside0.mk hN
  have H0B := Aside0.mk (show Below w.heap.size w w0 by rw [hN]; exact H0.out.2.1)
  clear hw0 hN
  obtain ⟨y0, y1, y2, y3⟩ := item_cells2 H0.out.1
  cases hk : knownB k g with
  | false =>
    have HK := Aside0.mk hk
    have HE := Aside0.mk (show ∀ q, rwE k g ct nx q = 70 from fun q => if_neg (by rw [HK.out]; decide))
    have HBB := Aside0.mk (show rwB k g ct nx ys = [] from if_neg (by rw [HE.out]; decide))
    clear hk
    go_wp2_with (go_at_call 65; refine (rknown7_any k g w0).mono ?_; rintro e w1 ⟨rfl, rfl⟩; rw [HK.out])
    go_ret2
    rw [HE.out, HBB.out]
    exact ⟨none, 0, rfl, Ow.nil _ _, H0B.out⟩
  | true =>
    have HK := Aside0.mk hk
    have hgb : 1 ≤ g ∧ g ≤ 3 := by
      unfold knownB at hk
      rw [Bool.and_eq_true] at hk
      exact of_decide_eq_true hk.2
    clear hk
    go_upto_region 3 with (go_at_call 65; refine (rknown7_any k g w0).mono ?_; rintro e w1 ⟨rfl, rfl⟩; rw [HK.out])
    rcases (show g = 1 ∨ g = 2 ∨ g = 3 by omega) with rfl | rfl | rfl
    · skip
      by_cases q1 : 248 < m
      case pos =>
        have e1 : decide ((248 : Int) < (m : Int)) = true := decide_eq_true (by omega)
        have HBAD := Aside0.mk (show rwBad 1 ct nx ys.length from (.inl (by rw [HML.out, show cpI 1 = 248 from rfl]; omega)))
        have HE := Aside0.mk (show rwE k 1 ct nx m = 73 ∧ rwB k 1 ct nx ys = [] by
          have h1 : rwE k 1 ct nx ys.length = 73 := by unfold rwE; rw [if_pos HK.out, if_pos HBAD.out]
          refine ⟨by rw [← HML.out]; exact h1, ?_⟩
          unfold rwB
          rw [if_neg (by rw [h1]; decide)])
        go_wp2_with (go_at_call 14; refine (rCap_any 1 _).mono ?_; rintro e w9 ⟨rfl, rfl⟩; rw [show cpI 1 = 248 from rfl])
        go_ret2
        rw [HE.out.1, HE.out.2]
        exact ⟨none, 0, rfl, Ow.nil _ _, H0B.out⟩
      case neg =>
        have e1 : decide ((248 : Int) < (m : Int)) = false := decide_eq_false (by omega)
        by_cases q2 : ct < 0
        case pos =>
          have e2 : decide (ct < 0) = true := decide_eq_true q2
          have HBAD := Aside0.mk (show rwBad 1 ct nx ys.length from (.inr (.inl q2)))
          have HE := Aside0.mk (show rwE k 1 ct nx m = 73 ∧ rwB k 1 ct nx ys = [] by
            have h1 : rwE k 1 ct nx ys.length = 73 := by unfold rwE; rw [if_pos HK.out, if_pos HBAD.out]
            refine ⟨by rw [← HML.out]; exact h1, ?_⟩
            unfold rwB
            rw [if_neg (by rw [h1]; decide)])
          go_wp2_with (go_at_call 14; refine (rCap_any 1 _).mono ?_; rintro e w9 ⟨rfl, rfl⟩; rw [show cpI 1 = 248 from rfl])
          go_ret2
          rw [HE.out.1, HE.out.2]
          exact ⟨none, 0, rfl, Ow.nil _ _, H0B.out⟩
        case neg =>
          have e2 : decide (ct < 0) = false := decide_eq_false q2
          by_cases q3 : 65535 < ct
          case pos =>
            have e3 : decide (65535 < ct) = true := decide_eq_true q3
            have HBAD := Aside0.mk (show rwBad 1 ct nx ys.length from (.inr (.inr (.inl q3))))
            have HE := Aside0.mk (show rwE k 1 ct nx m = 73 ∧ rwB k 1 ct nx ys = [] by
              have h1 : rwE k 1 ct nx ys.length = 73 := by unfold rwE; rw [if_pos HK.out, if_pos HBAD.out]
              refine ⟨by rw [← HML.out]; exact h1, ?_⟩
              unfold rwB
              rw [if_neg (by rw [h1]; decide)])
            go_wp2_with (go_at_call 14; refine (rCap_any 1 _).mono ?_; rintro e w9 ⟨rfl, rfl⟩; rw [show cpI 1 = 248 from rfl])
            go_ret2
            rw [HE.out.1, HE.out.2]
            exact ⟨none, 0, rfl, Ow.nil _ _, H0B.out⟩
          case neg =>
            have e3 : decide (65535 < ct) = false := decide_eq_false q3
            by_cases q4 : nx < 0
            case pos =>
              have e4 : decide (nx < 0) = true := decide_eq_true q4
              have HBAD := Aside0.mk (show rwBad 1 ct nx ys.length from (.inr (.inr (.inr (.inl q4)))))
              have HE := Aside0.mk (show rwE k 1 ct nx m = 73 ∧ rwB k 1 ct nx ys = [] by
                have h1 : rwE k 1 ct nx ys.length = 73 := by unfold rwE; rw [if_pos HK.out, if_pos HBAD.out]
                refine ⟨by rw [← HML.out]; exact h1, ?_⟩
                unfold rwB
                rw [if_neg (by rw [h1]; decide)])
              go_wp2_with (go_at_call 14; refine (rCap_any 1 _).mono ?_; rintro e w9 ⟨rfl, rfl⟩; rw [show cpI 1 = 248 from rfl])
              go_ret2
              rw [HE.out.1, HE.out.2]
              exact ⟨none, 0, rfl, Ow.nil _ _, H0B.out⟩
            case neg =>
              have e4 : decide (nx < 0) = false := decide_eq_false q4
              by_cases q5 : 4294967295 < nx
              case pos =>
                have e6 : decide (4294967295 < nx) = true := decide_eq_true q5
                have HBAD := Aside0.mk (show rwBad 1 ct nx ys.length from (.inr (.inr (.inr (.inr ⟨rfl, q5⟩)))))
                have HE := Aside0.mk (show rwE k 1 ct nx m = 73 ∧ rwB k 1 ct nx ys = [] by
                  have h1 : rwE k 1 ct nx ys.length = 73 := by unfold rwE; rw [if_pos HK.out, if_pos HBAD.out]
                  refine ⟨by rw [← HML.out]; exact h1, ?_⟩
                  unfold rwB
                  rw [if_neg (by rw [h1]; decide)])
                go_wp2_with (go_at_call 14; refine (rCap_any 1 _).mono ?_; rintro e w9 ⟨rfl, rfl⟩; rw [show cpI 1 = 248 from rfl])
                go_ret2
                rw [HE.out.1, HE.out.2]
                exact ⟨none, 0, rfl, Ow.nil _ _, H0B.out⟩
              case neg =>
                have e6 : decide (4294967295 < nx) = false := decide_eq_false q5
                have HGD := Aside0.mk (show rwE k 1 ct nx ys.length = 0 from by
                  unfold rwE
                  rw [if_pos HK.out, if_neg (fun q => by
                    have hcp : cpI 1 = 248 := rfl
                    unfold rwBad at q
                    rw [hcp, HML.out] at q
                    omega)])
                have HB1 := Aside0.mk (show 0 ≤ ct ∧ ct ≤ 65535 ∧ 0 ≤ nx ∧ m ≤ 248 by omega)
                have hct : ct % 65536 = ct := by omega
                clear hct
                go_upto_region 5 with (go_at_call 14; refine (rCap_any 1 _).mono ?_; rintro e w9 ⟨rfl, rfl⟩; rw [show cpI 1 = 248 from rfl])
                clear e1 e2 e3 e4
                clear e6
                clear q1 q2 q3 q4 q5
                have HO := Aside0.mk (Ow.lits (w := w0) (base := w0.heap.size) rfl (Nat.le_refl _) #[.int .u8 (k % 256), .int .u8 (1 % 256)] (two8 k 1) (two_lit k 1) 2 (by rfl) (by omega))
                have HBl := Aside0.mk ((Below.refl w0.heap.size w0).alloc (Nat.le_refl _) (.cells #[.int .u8 (k % 256), .int .u8 (1 % 256)] 5))
                have gg : (1 : Int) % 256 = 1 := rfl
                rw [gg] at HO HBl
                have y2' := cell_below ((Below.refl _ w0).alloc (Nat.le_refl _) (.cells #[.int .u8 (k % 256), .int .u8 1] 5)) y2
                go_upto_region 6 with (go_at_call 77; refine (rput7_any w0.heap.size (some ⟨w0.heap.size, 0, none⟩) 2 2 (two8 k 1) ct 2 _ HB1.out.1 (by have := HB1.out; omega) (by omega) (by omega) (by have := HBl.out.size; exact this) HO.out).mono ?_; rintro e w1 ⟨A1, c1, rfl, hO, hB⟩; (have H1 := Aside0.mk (And.intro (show Ow w1 w0.heap.size A1 4 c1 (two8 k 1 ++ le8 ct 2) from hO) (HBl.out.trans hB))); clear hO hB)
                clear y0 y1 y2 y3 y2' gg
                have HS := Aside0.mk (show ∀ w' : World, Below w0.heap.size w0 w' → w'.cell? ⟨N, 0, none⟩ = some (.int .i64 k) ∧ w'.cell? ⟨N, 1, none⟩ = some (.int .i64 1) ∧ w'.cell? ⟨N, 2, none⟩ = some (.int .i64 ct) ∧ w'.cell? ⟨N, 3, none⟩ = some (.int .i64 nx) from fun w' h => item_cells2 ((h.block _ (Array.getElem?_eq_some_iff.1 H0.out.1).1).trans H0.out.1))
                obtain ⟨y0, y1, y2, y3⟩ := HS.out _ H1.out.2
                
                have H2 := H1
                obtain ⟨A2, hA2⟩ : ∃ X, A1 = X := ⟨_, rfl⟩
                obtain ⟨c2, hc2⟩ : ∃ X, c1 = X := ⟨_, rfl⟩
                obtain ⟨w2, hw2⟩ : ∃ X, w1 = X := ⟨_, rfl⟩
                subst hA2 hc2 hw2
                go_upto_region 8 with fail
                have hbd : Below w1.heap.size w1 w1.drew := below_drew (Below.refl _ _)
                have T0 := Aside0.mk (And.intro (H2.out.1.below hbd) (below_then H2.out.2 H2.out.2.size hbd))
                obtain ⟨u0, hu0⟩ : ∃ X, w1.drew = X := ⟨_, rfl⟩
                rw [hu0] at T0
                clear hbd y0 y1 y2 y3
                have i0 : iwI 1 = 4 := rfl
                refine wp_region_M (fun j => decide (j < 10)) (fun w' => w'.cell? ⟨N, 0, none⟩ = some (.int .i64 k) ∧ w'.cell? ⟨N, 1, none⟩ = some (.int .i64 1) ∧ w'.cell? ⟨N, 2, none⟩ = some (.int .i64 ct) ∧ w'.cell? ⟨N, 3, none⟩ = some (.int .i64 nx)) (by kernel_rfl) ?_
                rw [hu0]
                clear hu0
                refine wpAnyM_take (i := 0) (v := ?_) (by simp only [List.getElem?_toArray, List.getElem?_cons_succ, List.getElem?_cons_zero]; rfl) (by kernel_rfl) (by kernel_rfl) (by kernel_rfl) (by kernel_rfl) (by exact fun _ _ _ h => h) (Or.inl ⟨by rfl, ?_⟩) (HS.out _ T0.out.2) ?_
                rotate_left
                · (intro w' hSw; (try dsimp only at hSw); go_simp; try with_reducible rfl)
                try simp only [Act.put, List.setIfInBounds_toArray, List.set_cons_zero, List.set_cons_succ]
                refine wpAnyM_take (i := 1) (v := ?_) (by simp only [List.getElem?_toArray, List.getElem?_cons_succ, List.getElem?_cons_zero]; rfl) (by kernel_rfl) (by kernel_rfl) (by kernel_rfl) (by kernel_rfl) (by exact fun _ _ _ h => h) (Or.inl ⟨by rfl, ?_⟩) (HS.out _ T0.out.2) ?_
                rotate_left
                · (intro w' hSw; (try dsimp only at hSw); go_simp; try with_reducible rfl)
                try simp only [Act.put, List.setIfInBounds_toArray, List.set_cons_zero, List.set_cons_succ]
                refine wpAnyM_take (i := 2) (v := ?_) (by simp only [List.getElem?_toArray, List.getElem?_cons_succ, List.getElem?_cons_zero]; rfl) (by kernel_rfl) (by kernel_rfl) (by kernel_rfl) (by kernel_rfl) (by exact fun _ _ _ h => h) (Or.inl ⟨by rfl, ?_⟩) (HS.out _ T0.out.2) ?_
                rotate_left
                · (intro w' hSw; (try dsimp only at hSw); go_simp; try with_reducible rfl)
                try simp only [Act.put, List.setIfInBounds_toArray, List.set_cons_zero, List.set_cons_succ]
                refine wpAnyM_take (i := 3) (v := ?_) (by simp only [List.getElem?_toArray, List.getElem?_cons_succ, List.getElem?_cons_zero]; rfl) (by kernel_rfl) (by kernel_rfl) (by kernel_rfl) (by kernel_rfl) (by exact fun _ _ _ h => h) (Or.inl ⟨by rfl, ?_⟩) (HS.out _ T0.out.2) ?_
                rotate_left
                · (intro w' hSw; (try dsimp only at hSw); go_simp; try with_reducible rfl)
                try simp only [Act.put, List.setIfInBounds_toArray, List.set_cons_zero, List.set_cons_succ]
                refine wpAnyM_take (i := 4) (v := ?_) (by simp only [List.getElem?_toArray, List.getElem?_cons_succ, List.getElem?_cons_zero]; rfl) (by kernel_rfl) (by kernel_rfl) (by kernel_rfl) (by kernel_rfl) (by exact fun _ _ _ h => h) (Or.inl ⟨by rfl, ?_⟩) (HS.out _ T0.out.2) ?_
                rotate_left
                · (intro w' hSw; (try dsimp only at hSw); go_simp; try with_reducible rfl)
                try simp only [Act.put, List.setIfInBounds_toArray, List.set_cons_zero, List.set_cons_succ]
                refine wpAnyM_take (i := 7) (v := ?_) (by simp only [List.getElem?_toArray, List.getElem?_cons_succ, List.getElem?_cons_zero]; rfl) (by kernel_rfl) (by kernel_rfl) (by kernel_rfl) (by kernel_rfl) (by exact fun _ _ _ h => h) (Or.inl ⟨by rfl, ?_⟩) (HS.out _ T0.out.2) ?_
                rotate_left
                · (intro w' hSw; (try dsimp only at hSw); go_simp; try with_reducible rfl)
                try simp only [Act.put, List.setIfInBounds_toArray, List.set_cons_zero, List.set_cons_succ]
                refine wpAnyM_one (i := 5) (by kernel_rfl) (by simp only [List.getElem?_toArray, List.getElem?_cons_succ, List.getElem?_cons_zero]; rfl) ?_
                go_wp2_with (go_at_call 67; refine (rIdWidth_any 1 _).mono ?_; rintro e w9 ⟨rfl, rfl⟩; rw [i0])
                refine ⟨HS.out _ T0.out.2, ?_⟩
                try simp only [Act.put, List.setIfInBounds_toArray, List.set_cons_zero, List.set_cons_succ]
                refine wpAnyM_one (i := 6) (by kernel_rfl) (by simp only [List.getElem?_toArray, List.getElem?_cons_succ, List.getElem?_cons_zero]; rfl) ?_
                go_wp2_with (go_at_call 77; refine (rput7_any w0.heap.size A1 4 c1 (two8 k 1 ++ le8 ct 2) nx 4 u0 HB1.out.2.2.1 (by have := HCX.out.2; omega) (by omega) (by omega) T0.out.2.size T0.out.1).mono ?_; rintro e u1 ⟨A3, c3, rfl, hO, hB⟩; (have T1 := Aside0.mk (And.intro (show Ow u1 w0.heap.size A3 8 c3 ((two8 k 1 ++ le8 ct 2) ++ le8 nx 4) from hO) (T0.out.2.trans hB))); clear hO hB)
                refine ⟨HS.out _ T1.out.2, ?_⟩
                try simp only [Act.put, List.setIfInBounds_toArray, List.set_cons_zero, List.set_cons_succ]
                refine wpAnyM_one (i := 8) (by kernel_rfl) (by simp only [List.getElem?_toArray, List.getElem?_cons_succ, List.getElem?_cons_zero]; rfl) ?_
                refine wpl_a8 (w0 := w0) w0.heap.size (by rfl) (.tmp 65) (.tmp 66) (by rfl) A3 8 c3 ((two8 k 1 ++ le8 ct 2) ++ le8 nx 4) B m d ys (8 + m) (((two8 k 1 ++ le8 ct 2) ++ le8 nx 4) ++ ys) (by rfl) (by rfl) T1.out.1 (H0.out.2.2.2.below T1.out.2) T1.out.2 T1.out.2.size rfl (by have := HB1.out; omega) rfl ?_
                intro A4 c4 u2 hO hB
                have T2 := Aside0.mk (And.intro hO.out hB.out)
                clear hO hB
                refine wpl_nil (And.intro rfl (And.intro (fun _ => HS.out _ T2.out.2) ?_))
                try simp only [Act.put, List.setIfInBounds_toArray, List.set_cons_zero, List.set_cons_succ]
                refine wpAnyM_take (i := 9) (v := ?_) (by simp only [List.getElem?_toArray, List.getElem?_cons_succ, List.getElem?_cons_zero]; rfl) (by kernel_rfl) (by kernel_rfl) (by kernel_rfl) (by kernel_rfl) (by exact fun _ _ _ h => h) (Or.inl ⟨by rfl, ?_⟩) (HS.out _ T2.out.2) ?_
                rotate_left
                · (intro w' hSw; (try dsimp only at hSw); go_simp; try with_reducible rfl)
                try simp only [Act.put, List.setIfInBounds_toArray, List.set_cons_zero, List.set_cons_succ]
                refine wpAnyM_done (by kernel_rfl) ?_ _
                clear i0
                obtain ⟨p, hp⟩ : ∃ x, 256 - (8 + m) = x := ⟨_, rfl⟩
                have HP := Aside0.mk hp
                have HHD := Aside0.mk (show rwHd k 1 ct nx = (two8 k 1 ++ le8 ct 2) ++ le8 nx 4 by unfold rwHd; rw [if_neg (by decide), List.append_nil]; rfl)
                clear hp
                go_wp2_with fail
                go_loopg [6] p (fun gk v6 wr => ∃ (j : Nat) (A6 : Option Addr) (c6 nn : Nat), Aside (gk + j = p) ∧ v6 = .slice A6 nn c6 ∧ Aside0 (nn = 8 + m + j ∧ Ow wr w0.heap.size A6 nn c6 ((((two8 k 1 ++ le8 ct 2) ++ le8 nx 4) ++ ys) ++ List.replicate j 0) ∧ Below w0.heap.size w0 wr))
                case atStart => exact ⟨0, A4, c4, 8 + m, rfl, rfl, ⟨rfl, by rw [List.replicate_zero, List.append_nil]; exact T2.out.1, T2.out.2⟩⟩
                case round =>
                  obtain ⟨j, A6, c6, nn, hk, rfl, hI⟩ := hrel
                  have hjp : j ≤ p := by have := hk.out; omega
                  rcases Nat.lt_or_ge j p with hlt | hge
                  · have gr : decide ((nn : Int) < 256) = true := decide_eq_true (by have := HP.out; have := hI.out.1; omega)
                    have HLt := Aside0.mk (Bs.lit wr wr.heap.size rfl #[.int .u8 0] 5 (0, 0) 1 1 [0] rfl rfl (Nat.le_refl _) (by omega) (by omega))
                    have HA := Aside0.mk (And.intro (hI.out.2.1.alloc (.cells #[.int .u8 0] 5)) (below_alloc hI.out.2.2 hI.out.2.2.size (.cells #[.int .u8 0] 5)))
                    have HZ := Aside0.mk (show ((((two8 k 1 ++ le8 ct 2) ++ le8 nx 4) ++ ys) ++ List.replicate j 0) ++ [0] = (((two8 k 1 ++ le8 ct 2) ++ le8 nx 4) ++ ys) ++ List.replicate (j + 1) (0 : UInt8) by rw [List.append_assoc _ _ [0], List.replicate_succ'])
                    have HNN := Aside0.mk (show nn ≤ 1000 by have := hI.out.1; have := HP.out; have := HB1.out; omega)
                    go_wp2_with (at_builtin; (refine wpl_a8 (w0 := w0) w0.heap.size rfl _ _ rfl A6 nn c6 ((((two8 k 1 ++ le8 ct 2) ++ le8 nx 4) ++ ys) ++ List.replicate j 0) _ 1 1 [0] (nn + 1) ((((two8 k 1 ++ le8 ct 2) ++ le8 nx 4) ++ ys) ++ List.replicate (j + 1) 0) rfl rfl HA.out.1 HLt.out HA.out.2 (by have := hI.out.2.2.size; first | (simp; done) | (simp; omega)) rfl (by have := HNN.out; omega) HZ.out ?_); intro A8 c8 w8 hO8 hB8)
                    go_roundg (p - (j + 1))
                    case measure => have := hk.out; omega
                    case rel => exact ⟨j + 1, A8, c8, nn + 1, by have := hk.out; exact (show p - (j + 1) + (j + 1) = p by omega), rfl, ⟨by have := hI.out.1; omega, hO8.out, hB8.out⟩⟩
                  · obtain rfl : p = j := by omega
                    have HNE := Aside0.mk (show nn = 256 by have := HP.out; have := hI.out.1; have := HB1.out; omega)
                    have gr : decide ((nn : Int) < 256) = false := decide_eq_false (by have := HNE.out; omega)
                    have HPP := Aside0.mk (show rwP k 1 ct nx ys = (((two8 k 1 ++ le8 ct 2) ++ le8 nx 4) ++ ys) ++ List.replicate p 0 by
                      unfold rwP
                      rw [HHD.out]
                      congr 2
                      rw [← HP.out, ← T2.out.1.len])
                    have HBB := Aside0.mk (show rwB k 1 ct nx ys = rwP k 1 ct nx ys by unfold rwB; rw [if_pos HGD.out]; exact if_neg (by decide))
                    have HE := Aside0.mk (show rwE k 1 ct nx m = 0 by rw [← HML.out]; exact HGD.out)
                    obtain ⟨y0, y1, y2, y3⟩ := HS.out _ hI.out.2.2
                    have h5 := hI.out.2.1
                    rw [← HPP.out] at h5
                    have H5 := Aside0.mk h5
                    clear h5
                    go_wp2_with fail
                    go_ret2
                    rw [HE.out, HBB.out, H5.out.len]
                    exact ⟨A6, c6, rfl, H5.out.mono H0B.out.size, below_then H0B.out H0B.out.size hI.out.2.2⟩
    · skip
      by_cases q1 : 240 < m
      case pos =>
        have e1 : decide ((240 : Int) < (m : Int)) = true := decide_eq_true (by omega)
        have HBAD := Aside0.mk (show rwBad 2 ct nx ys.length from (.inl (by rw [HML.out, show cpI 2 = 240 from rfl]; omega)))
        have HE := Aside0.mk (show rwE k 2 ct nx m = 73 ∧ rwB k 2 ct nx ys = [] by
          have h1 : rwE k 2 ct nx ys.length = 73 := by unfold rwE; rw [if_pos HK.out, if_pos HBAD.out]
          refine ⟨by rw [← HML.out]; exact h1, ?_⟩
          unfold rwB
          rw [if_neg (by rw [h1]; decide)])
        go_wp2_with (go_at_call 14; refine (rCap_any 2 _).mono ?_; rintro e w9 ⟨rfl, rfl⟩; rw [show cpI 2 = 240 from rfl])
        go_ret2
        rw [HE.out.1, HE.out.2]
        exact ⟨none, 0, rfl, Ow.nil _ _, H0B.out⟩
      case neg =>
        have e1 : decide ((240 : Int) < (m : Int)) = false := decide_eq_false (by omega)
        by_cases q2 : ct < 0
        case pos =>
          have e2 : decide (ct < 0) = true := decide_eq_true q2
          have HBAD := Aside0.mk (show rwBad 2 ct nx ys.length from (.inr (.inl q2)))
          have HE := Aside0.mk (show rwE k 2 ct nx m = 73 ∧ rwB k 2 ct nx ys = [] by
            have h1 : rwE k 2 ct nx ys.length = 73 := by unfold rwE; rw [if_pos HK.out, if_pos HBAD.out]
            refine ⟨by rw [← HML.out]; exact h1, ?_⟩
            unfold rwB
            rw [if_neg (by rw [h1]; decide)])
          go_wp2_with (go_at_call 14; refine (rCap_any 2 _).mono ?_; rintro e w9 ⟨rfl, rfl⟩; rw [show cpI 2 = 240 from rfl])
          go_ret2
          rw [HE.out.1, HE.out.2]
          exact ⟨none, 0, rfl, Ow.nil _ _, H0B.out⟩
        case neg =>
          have e2 : decide (ct < 0) = false := decide_eq_false q2
          by_cases q3 : 65535 < ct
          case pos =>
            have e3 : decide (65535 < ct) = true := decide_eq_true q3
            have HBAD := Aside0.mk (show rwBad 2 ct nx ys.length from (.inr (.inr (.inl q3))))
            have HE := Aside0.mk (show rwE k 2 ct nx m = 73 ∧ rwB k 2 ct nx ys = [] by
              have h1 : rwE k 2 ct nx ys.length = 73 := by unfold rwE; rw [if_pos HK.out, if_pos HBAD.out]
              refine ⟨by rw [← HML.out]; exact h1, ?_⟩
              unfold rwB
              rw [if_neg (by rw [h1]; decide)])
            go_wp2_with (go_at_call 14; refine (rCap_any 2 _).mono ?_; rintro e w9 ⟨rfl, rfl⟩; rw [show cpI 2 = 240 from rfl])
            go_ret2
            rw [HE.out.1, HE.out.2]
            exact ⟨none, 0, rfl, Ow.nil _ _, H0B.out⟩
          case neg =>
            have e3 : decide (65535 < ct) = false := decide_eq_false q3
            by_cases q4 : nx < 0
            case pos =>
              have e4 : decide (nx < 0) = true := decide_eq_true q4
              have HBAD := Aside0.mk (show rwBad 2 ct nx ys.length from (.inr (.inr (.inr (.inl q4)))))
              have HE := Aside0.mk (show rwE k 2 ct nx m = 73 ∧ rwB k 2 ct nx ys = [] by
                have h1 : rwE k 2 ct nx ys.length = 73 := by unfold rwE; rw [if_pos HK.out, if_pos HBAD.out]
                refine ⟨by rw [← HML.out]; exact h1, ?_⟩
                unfold rwB
                rw [if_neg (by rw [h1]; decide)])
              go_wp2_with (go_at_call 14; refine (rCap_any 2 _).mono ?_; rintro e w9 ⟨rfl, rfl⟩; rw [show cpI 2 = 240 from rfl])
              go_ret2
              rw [HE.out.1, HE.out.2]
              exact ⟨none, 0, rfl, Ow.nil _ _, H0B.out⟩
            case neg =>
              have e4 : decide (nx < 0) = false := decide_eq_false q4
              have HGD := Aside0.mk (show rwE k 2 ct nx ys.length = 0 from by
                unfold rwE
                rw [if_pos HK.out, if_neg (fun q => by
                  have hcp : cpI 2 = 240 := rfl
                  unfold rwBad at q
                  rw [hcp, HML.out] at q
                  omega)])
              have HB1 := Aside0.mk (show 0 ≤ ct ∧ ct ≤ 65535 ∧ 0 ≤ nx ∧ m ≤ 240 by omega)
              have hct : ct % 65536 = ct := by omega
              clear hct
              go_upto_region 5 with (go_at_call 14; refine (rCap_any 2 _).mono ?_; rintro e w9 ⟨rfl, rfl⟩; rw [show cpI 2 = 240 from rfl])
              clear e1 e2 e3 e4
              clear q1 q2 q3 q4
              have HO := Aside0.mk (Ow.lits (w := w0) (base := w0.heap.size) rfl (Nat.le_refl _) #[.int .u8 (k % 256), .int .u8 (2 % 256)] (two8 k 2) (two_lit k 2) 2 (by rfl) (by omega))
              have HBl := Aside0.mk ((Below.refl w0.heap.size w0).alloc (Nat.le_refl _) (.cells #[.int .u8 (k % 256), .int .u8 (2 % 256)] 5))
              have gg : (2 : Int) % 256 = 2 := rfl
              rw [gg] at HO HBl
              have y2' := cell_below ((Below.refl _ w0).alloc (Nat.le_refl _) (.cells #[.int .u8 (k % 256), .int .u8 2] 5)) y2
              go_upto_region 6 with (go_at_call 77; refine (rput7_any w0.heap.size (some ⟨w0.heap.size, 0, none⟩) 2 2 (two8 k 2) ct 2 _ HB1.out.1 (by have := HB1.out; omega) (by omega) (by omega) (by have := HBl.out.size; exact this) HO.out).mono ?_; rintro e w1 ⟨A1, c1, rfl, hO, hB⟩; (have H1 := Aside0.mk (And.intro (show Ow w1 w0.heap.size A1 4 c1 (two8 k 2 ++ le8 ct 2) from hO) (HBl.out.trans hB))); clear hO hB)
              clear y0 y1 y2 y3 y2' gg
              have HS := Aside0.mk (show ∀ w' : World, Below w0.heap.size w0 w' → w'.cell? ⟨N, 0, none⟩ = some (.int .i64 k) ∧ w'.cell? ⟨N, 1, none⟩ = some (.int .i64 2) ∧ w'.cell? ⟨N, 2, none⟩ = some (.int .i64 ct) ∧ w'.cell? ⟨N, 3, none⟩ = some (.int .i64 nx) from fun w' h => item_cells2 ((h.block _ (Array.getElem?_eq_some_iff.1 H0.out.1).1).trans H0.out.1))
              obtain ⟨y0, y1, y2, y3⟩ := HS.out _ H1.out.2
              
              go_upto_region 8 with (go_at_call 77; refine (rput7_any w0.heap.size A1 4 c1 (two8 k 2 ++ le8 ct 2) 0 4 w1 (by omega) (by omega) (by omega) (by omega) H1.out.2.size H1.out.1).mono ?_; rintro e w2 ⟨A2, c2, rfl, hO, hB⟩; (have H2 := Aside0.mk (And.intro (show Ow w2 w0.heap.size A2 8 c2 ((two8 k 2 ++ le8 ct 2) ++ le8 0 4) from hO) (H1.out.2.trans hB))); clear hO hB)
              have hbd : Below w2.heap.size w2 w2.drew := below_drew (Below.refl _ _)
              have T0 := Aside0.mk (And.intro (H2.out.1.below hbd) (below_then H2.out.2 H2.out.2.size hbd))
              obtain ⟨u0, hu0⟩ : ∃ X, w2.drew = X := ⟨_, rfl⟩
              rw [hu0] at T0
              clear hbd y0 y1 y2 y3
              have i0 : iwI 2 = 8 := rfl
              refine wp_region_M (fun j => decide (j < 10)) (fun w' => w'.cell? ⟨N, 0, none⟩ = some (.int .i64 k) ∧ w'.cell? ⟨N, 1, none⟩ = some (.int .i64 2) ∧ w'.cell? ⟨N, 2, none⟩ = some (.int .i64 ct) ∧ w'.cell? ⟨N, 3, none⟩ = some (.int .i64 nx)) (by kernel_rfl) ?_
              rw [hu0]
              clear hu0
              refine wpAnyM_take (i := 0) (v := ?_) (by simp only [List.getElem?_toArray, List.getElem?_cons_succ, List.getElem?_cons_zero]; rfl) (by kernel_rfl) (by kernel_rfl) (by kernel_rfl) (by kernel_rfl) (by exact fun _ _ _ h => h) (Or.inl ⟨by rfl, ?_⟩) (HS.out _ T0.out.2) ?_
              rotate_left
              · (intro w' hSw; (try dsimp only at hSw); go_simp; try with_reducible rfl)
              try simp only [Act.put, List.setIfInBounds_toArray, List.set_cons_zero, List.set_cons_succ]
              refine wpAnyM_take (i := 1) (v := ?_) (by simp only [List.getElem?_toArray, List.getElem?_cons_succ, List.getElem?_cons_zero]; rfl) (by kernel_rfl) (by kernel_rfl) (by kernel_rfl) (by kernel_rfl) (by exact fun _ _ _ h => h) (Or.inl ⟨by rfl, ?_⟩) (HS.out _ T0.out.2) ?_
              rotate_left
              · (intro w' hSw; (try dsimp only at hSw); go_simp; try with_reducible rfl)
              try simp only [Act.put, List.setIfInBounds_toArray, List.set_cons_zero, List.set_cons_succ]
              refine wpAnyM_take (i := 2) (v := ?_) (by simp only [List.getElem?_toArray, List.getElem?_cons_succ, List.getElem?_cons_zero]; rfl) (by kernel_rfl) (by kernel_rfl) (by kernel_rfl) (by kernel_rfl) (by exact fun _ _ _ h => h) (Or.inl ⟨by rfl, ?_⟩) (HS.out _ T0.out.2) ?_
              rotate_left
              · (intro w' hSw; (try dsimp only at hSw); go_simp; try with_reducible rfl)
              try simp only [Act.put, List.setIfInBounds_toArray, List.set_cons_zero, List.set_cons_succ]
              refine wpAnyM_take (i := 3) (v := ?_) (by simp only [List.getElem?_toArray, List.getElem?_cons_succ, List.getElem?_cons_zero]; rfl) (by kernel_rfl) (by kernel_rfl) (by kernel_rfl) (by kernel_rfl) (by exact fun _ _ _ h => h) (Or.inl ⟨by rfl, ?_⟩) (HS.out _ T0.out.2) ?_
              rotate_left
              · (intro w' hSw; (try dsimp only at hSw); go_simp; try with_reducible rfl)
              try simp only [Act.put, List.setIfInBounds_toArray, List.set_cons_zero, List.set_cons_succ]
              refine wpAnyM_take (i := 4) (v := ?_) (by simp only [List.getElem?_toArray, List.getElem?_cons_succ, List.getElem?_cons_zero]; rfl) (by kernel_rfl) (by kernel_rfl) (by kernel_rfl) (by kernel_rfl) (by exact fun _ _ _ h => h) (Or.inl ⟨by rfl, ?_⟩) (HS.out _ T0.out.2) ?_
              rotate_left
              · (intro w' hSw; (try dsimp only at hSw); go_simp; try with_reducible rfl)
              try simp only [Act.put, List.setIfInBounds_toArray, List.set_cons_zero, List.set_cons_succ]
              refine wpAnyM_take (i := 7) (v := ?_) (by simp only [List.getElem?_toArray, List.getElem?_cons_succ, List.getElem?_cons_zero]; rfl) (by kernel_rfl) (by kernel_rfl) (by kernel_rfl) (by kernel_rfl) (by exact fun _ _ _ h => h) (Or.inl ⟨by rfl, ?_⟩) (HS.out _ T0.out.2) ?_
              rotate_left
              · (intro w' hSw; (try dsimp only at hSw); go_simp; try with_reducible rfl)
              try simp only [Act.put, List.setIfInBounds_toArray, List.set_cons_zero, List.set_cons_succ]
              refine wpAnyM_one (i := 5) (by kernel_rfl) (by simp only [List.getElem?_toArray, List.getElem?_cons_succ, List.getElem?_cons_zero]; rfl) ?_
              go_wp2_with (go_at_call 67; refine (rIdWidth_any 2 _).mono ?_; rintro e w9 ⟨rfl, rfl⟩; rw [i0])
              refine ⟨HS.out _ T0.out.2, ?_⟩
              try simp only [Act.put, List.setIfInBounds_toArray, List.set_cons_zero, List.set_cons_succ]
              refine wpAnyM_one (i := 6) (by kernel_rfl) (by simp only [List.getElem?_toArray, List.getElem?_cons_succ, List.getElem?_cons_zero]; rfl) ?_
              go_wp2_with (go_at_call 77; refine (rput7_any w0.heap.size A2 8 c2 ((two8 k 2 ++ le8 ct 2) ++ le8 0 4) nx 8 u0 HB1.out.2.2.1 (by have := HCX.out.2; omega) (by omega) (by omega) T0.out.2.size T0.out.1).mono ?_; rintro e u1 ⟨A3, c3, rfl, hO, hB⟩; (have T1 := Aside0.mk (And.intro (show Ow u1 w0.heap.size A3 16 c3 (((two8 k 2 ++ le8 ct 2) ++ le8 0 4) ++ le8 nx 8) from hO) (T0.out.2.trans hB))); clear hO hB)
              refine ⟨HS.out _ T1.out.2, ?_⟩
              try simp only [Act.put, List.setIfInBounds_toArray, List.set_cons_zero, List.set_cons_succ]
              refine wpAnyM_one (i := 8) (by kernel_rfl) (by simp only [List.getElem?_toArray, List.getElem?_cons_succ, List.getElem?_cons_zero]; rfl) ?_
              refine wpl_a8 (w0 := w0) w0.heap.size (by rfl) (.tmp 65) (.tmp 66) (by rfl) A3 16 c3 (((two8 k 2 ++ le8 ct 2) ++ le8 0 4) ++ le8 nx 8) B m d ys (16 + m) ((((two8 k 2 ++ le8 ct 2) ++ le8 0 4) ++ le8 nx 8) ++ ys) (by rfl) (by rfl) T1.out.1 (H0.out.2.2.2.below T1.out.2) T1.out.2 T1.out.2.size rfl (by have := HB1.out; omega) rfl ?_
              intro A4 c4 u2 hO hB
              have T2 := Aside0.mk (And.intro hO.out hB.out)
              clear hO hB
              refine wpl_nil (And.intro rfl (And.intro (fun _ => HS.out _ T2.out.2) ?_))
              try simp only [Act.put, List.setIfInBounds_toArray, List.set_cons_zero, List.set_cons_succ]
              refine wpAnyM_take (i := 9) (v := ?_) (by simp only [List.getElem?_toArray, List.getElem?_cons_succ, List.getElem?_cons_zero]; rfl) (by kernel_rfl) (by kernel_rfl) (by kernel_rfl) (by kernel_rfl) (by exact fun _ _ _ h => h) (Or.inl ⟨by rfl, ?_⟩) (HS.out _ T2.out.2) ?_
              rotate_left
              · (intro w' hSw; (try dsimp only at hSw); go_simp; try with_reducible rfl)
              try simp only [Act.put, List.setIfInBounds_toArray, List.set_cons_zero, List.set_cons_succ]
              refine wpAnyM_done (by kernel_rfl) ?_ _
              clear i0
              obtain ⟨p, hp⟩ : ∃ x, 256 - (16 + m) = x := ⟨_, rfl⟩
              have HP := Aside0.mk hp
              have HHD := Aside0.mk (show rwHd k 2 ct nx = ((two8 k 2 ++ le8 ct 2) ++ le8 0 4) ++ le8 nx 8 by unfold rwHd; rw [if_pos (by decide)]; rfl)
              clear hp
              go_wp2_with fail
              go_loopg [6] p (fun gk v6 wr => ∃ (j : Nat) (A6 : Option Addr) (c6 nn : Nat), Aside (gk + j = p) ∧ v6 = .slice A6 nn c6 ∧ Aside0 (nn = 16 + m + j ∧ Ow wr w0.heap.size A6 nn c6 (((((two8 k 2 ++ le8 ct 2) ++ le8 0 4) ++ le8 nx 8) ++ ys) ++ List.replicate j 0) ∧ Below w0.heap.size w0 wr))
              case atStart => exact ⟨0, A4, c4, 16 + m, rfl, rfl, ⟨rfl, by rw [List.replicate_zero, List.append_nil]; exact T2.out.1, T2.out.2⟩⟩
              case round =>
                obtain ⟨j, A6, c6, nn, hk, rfl, hI⟩ := hrel
                have hjp : j ≤ p := by have := hk.out; omega
                rcases Nat.lt_or_ge j p with hlt | hge
                · have gr : decide ((nn : Int) < 256) = true := decide_eq_true (by have := HP.out; have := hI.out.1; omega)
                  have HLt := Aside0.mk (Bs.lit wr wr.heap.size rfl #[.int .u8 0] 5 (0, 0) 1 1 [0] rfl rfl (Nat.le_refl _) (by omega) (by omega))
                  have HA := Aside0.mk (And.intro (hI.out.2.1.alloc (.cells #[.int .u8 0] 5)) (below_alloc hI.out.2.2 hI.out.2.2.size (.cells #[.int .u8 0] 5)))
                  have HZ := Aside0.mk (show (((((two8 k 2 ++ le8 ct 2) ++ le8 0 4) ++ le8 nx 8) ++ ys) ++ List.replicate j 0) ++ [0] = ((((two8 k 2 ++ le8 ct 2) ++ le8 0 4) ++ le8 nx 8) ++ ys) ++ List.replicate (j + 1) (0 : UInt8) by rw [List.append_assoc _ _ [0], List.replicate_succ'])
                  have HNN := Aside0.mk (show nn ≤ 1000 by have := hI.out.1; have := HP.out; have := HB1.out; omega)
                  go_wp2_with (at_builtin; (refine wpl_a8 (w0 := w0) w0.heap.size rfl _ _ rfl A6 nn c6 (((((two8 k 2 ++ le8 ct 2) ++ le8 0 4) ++ le8 nx 8) ++ ys) ++ List.replicate j 0) _ 1 1 [0] (nn + 1) (((((two8 k 2 ++ le8 ct 2) ++ le8 0 4) ++ le8 nx 8) ++ ys) ++ List.replicate (j + 1) 0) rfl rfl HA.out.1 HLt.out HA.out.2 (by have := hI.out.2.2.size; first | (simp; done) | (simp; omega)) rfl (by have := HNN.out; omega) HZ.out ?_); intro A8 c8 w8 hO8 hB8)
                  go_roundg (p - (j + 1))
                  case measure => have := hk.out; omega
                  case rel => exact ⟨j + 1, A8, c8, nn + 1, by have := hk.out; exact (show p - (j + 1) + (j + 1) = p by omega), rfl, ⟨by have := hI.out.1; omega, hO8.out, hB8.out⟩⟩
                · obtain rfl : p = j := by omega
                  have HNE := Aside0.mk (show nn = 256 by have := HP.out; have := hI.out.1; have := HB1.out; omega)
                  have gr : decide ((nn : Int) < 256) = false := decide_eq_false (by have := HNE.out; omega)
                  have HPP := Aside0.mk (show rwP k 2 ct nx ys = ((((two8 k 2 ++ le8 ct 2) ++ le8 0 4) ++ le8 nx 8) ++ ys) ++ List.replicate p 0 by
                    unfold rwP
                    rw [HHD.out]
                    congr 2
                    rw [← HP.out, ← T2.out.1.len])
                  have HBB := Aside0.mk (show rwB k 2 ct nx ys = rsealB (rwP k 2 ct nx ys) 4 by unfold rwB; rw [if_pos HGD.out]; exact if_pos (by decide))
                  have HE := Aside0.mk (show rwE k 2 ct nx m = 0 by rw [← HML.out]; exact HGD.out)
                  obtain ⟨y0, y1, y2, y3⟩ := HS.out _ hI.out.2.2
                  have h5 := hI.out.2.1
                  rw [← HPP.out] at h5
                  have H5 := Aside0.mk h5
                  clear h5
                  go_wp2_with (go_at_call 90; refine (rseal_any A6 nn c6 _ 4 _ H5.out.bs (by have := HNE.out; omega)).mono ?_; rintro e w7 ⟨A7, c7, rfl, hO, hB⟩; (have H7 := Aside0.mk (And.intro hO (below_then hI.out.2.2 hI.out.2.2.size hB))); clear hO hB)
                  go_ret2
                  rw [HE.out, HBB.out, H7.out.1.len]
                  exact ⟨A7, c7, rfl, H7.out.1.mono (Nat.le_trans H0B.out.size hI.out.2.2.size), below_then H0B.out H0B.out.size H7.out.2⟩
    · skip
      by_cases q1 : 240 < m
      case pos =>
        have e1 : decide ((240 : Int) < (m : Int)) = true := decide_eq_true (by omega)
        have HBAD := Aside0.mk (show rwBad 3 ct nx ys.length from (.inl (by rw [HML.out, show cpI 3 = 240 from rfl]; omega)))
        have HE := Aside0.mk (show rwE k 3 ct nx m = 73 ∧ rwB k 3 ct nx ys = [] by
          have h1 : rwE k 3 ct nx ys.length = 73 := by unfold rwE; rw [if_pos HK.out, if_pos HBAD.out]
          refine ⟨by rw [← HML.out]; exact h1, ?_⟩
          unfold rwB
          rw [if_neg (by rw [h1]; decide)])
        go_wp2_with (go_at_call 14; refine (rCap_any 3 _).mono ?_; rintro e w9 ⟨rfl, rfl⟩; rw [show cpI 3 = 240 from rfl])
        go_ret2
        rw [HE.out.1, HE.out.2]
        exact ⟨none, 0, rfl, Ow.nil _ _, H0B.out⟩
      case neg =>
        have e1 : decide ((240 : Int) < (m : Int)) = false := decide_eq_false (by omega)
        by_cases q2 : ct < 0
        case pos =>
          have e2 : decide (ct < 0) = true := decide_eq_true q2
          have HBAD := Aside0.mk (show rwBad 3 ct nx ys.length from (.inr (.inl q2)))
          have HE := Aside0.mk (show rwE k 3 ct nx m = 73 ∧ rwB k 3 ct nx ys = [] by
            have h1 : rwE k 3 ct nx ys.length = 73 := by unfold rwE; rw [if_pos HK.out, if_pos HBAD.out]
            refine ⟨by rw [← HML.out]; exact h1, ?_⟩
            unfold rwB
            rw [if_neg (by rw [h1]; decide)])
          go_wp2_with (go_at_call 14; refine (rCap_any 3 _).mono ?_; rintro e w9 ⟨rfl, rfl⟩; rw [show cpI 3 = 240 from rfl])
          go_ret2
          rw [HE.out.1, HE.out.2]
          exact ⟨none, 0, rfl, Ow.nil _ _, H0B.out⟩
        case neg =>
          have e2 : decide (ct < 0) = false := decide_eq_false q2
          by_cases q3 : 65535 < ct
          case pos =>
            have e3 : decide (65535 < ct) = true := decide_eq_true q3
            have HBAD := Aside0.mk (show rwBad 3 ct nx ys.length from (.inr (.inr (.inl q3))))
            have HE := Aside0.mk (show rwE k 3 ct nx m = 73 ∧ rwB k 3 ct nx ys = [] by
              have h1 : rwE k 3 ct nx ys.length = 73 := by unfold rwE; rw [if_pos HK.out, if_pos HBAD.out]
              refine ⟨by rw [← HML.out]; exact h1, ?_⟩
              unfold rwB
              rw [if_neg (by rw [h1]; decide)])
            go_wp2_with (go_at_call 14; refine (rCap_any 3 _).mono ?_; rintro e w9 ⟨rfl, rfl⟩; rw [show cpI 3 = 240 from rfl])
            go_ret2
            rw [HE.out.1, HE.out.2]
            exact ⟨none, 0, rfl, Ow.nil _ _, H0B.out⟩
          case neg =>
            have e3 : decide (65535 < ct) = false := decide_eq_false q3
            by_cases q4 : nx < 0
            case pos =>
              have e4 : decide (nx < 0) = true := decide_eq_true q4
              have HBAD := Aside0.mk (show rwBad 3 ct nx ys.length from (.inr (.inr (.inr (.inl q4)))))
              have HE := Aside0.mk (show rwE k 3 ct nx m = 73 ∧ rwB k 3 ct nx ys = [] by
                have h1 : rwE k 3 ct nx ys.length = 73 := by unfold rwE; rw [if_pos HK.out, if_pos HBAD.out]
                refine ⟨by rw [← HML.out]; exact h1, ?_⟩
                unfold rwB
                rw [if_neg (by rw [h1]; decide)])
              go_wp2_with (go_at_call 14; refine (rCap_any 3 _).mono ?_; rintro e w9 ⟨rfl, rfl⟩; rw [show cpI 3 = 240 from rfl])
              go_ret2
              rw [HE.out.1, HE.out.2]
              exact ⟨none, 0, rfl, Ow.nil _ _, H0B.out⟩
            case neg =>
              have e4 : decide (nx < 0) = false := decide_eq_false q4
              have HGD := Aside0.mk (show rwE k 3 ct nx ys.length = 0 from by
                unfold rwE
                rw [if_pos HK.out, if_neg (fun q => by
                  have hcp : cpI 3 = 240 := rfl
                  unfold rwBad at q
                  rw [hcp, HML.out] at q
                  omega)])
              have HB1 := Aside0.mk (show 0 ≤ ct ∧ ct ≤ 65535 ∧ 0 ≤ nx ∧ m ≤ 240 by omega)
              have hct : ct % 65536 = ct := by omega
              clear hct
              go_upto_region 5 with (go_at_call 14; refine (rCap_any 3 _).mono ?_; rintro e w9 ⟨rfl, rfl⟩; rw [show cpI 3 = 240 from rfl])
              clear e1 e2 e3 e4
              clear q1 q2 q3 q4
              have HO := Aside0.mk (Ow.lits (w := w0) (base := w0.heap.size) rfl (Nat.le_refl _) #[.int .u8 (k % 256), .int .u8 (3 % 256)] (two8 k 3) (two_lit k 3) 2 (by rfl) (by omega))
              have HBl := Aside0.mk ((Below.refl w0.heap.size w0).alloc (Nat.le_refl _) (.cells #[.int .u8 (k % 256), .int .u8 (3 % 256)] 5))
              have gg : (3 : Int) % 256 = 3 := rfl
              rw [gg] at HO HBl
              have y2' := cell_below ((Below.refl _ w0).alloc (Nat.le_refl _) (.cells #[.int .u8 (k % 256), .int .u8 3] 5)) y2
              go_upto_region 6 with (go_at_call 77; refine (rput7_any w0.heap.size (some ⟨w0.heap.size, 0, none⟩) 2 2 (two8 k 3) ct 2 _ HB1.out.1 (by have := HB1.out; omega) (by omega) (by omega) (by have := HBl.out.size; exact this) HO.out).mono ?_; rintro e w1 ⟨A1, c1, rfl, hO, hB⟩; (have H1 := Aside0.mk (And.intro (show Ow w1 w0.heap.size A1 4 c1 (two8 k 3 ++ le8 ct 2) from hO) (HBl.out.trans hB))); clear hO hB)
              clear y0 y1 y2 y3 y2' gg
              have HS := Aside0.mk (show ∀ w' : World, Below w0.heap.size w0 w' → w'.cell? ⟨N, 0, none⟩ = some (.int .i64 k) ∧ w'.cell? ⟨N, 1, none⟩ = some (.int .i64 3) ∧ w'.cell? ⟨N, 2, none⟩ = some (.int .i64 ct) ∧ w'.cell? ⟨N, 3, none⟩ = some (.int .i64 nx) from fun w' h => item_cells2 ((h.block _ (Array.getElem?_eq_some_iff.1 H0.out.1).1).trans H0.out.1))
              obtain ⟨y0, y1, y2, y3⟩ := HS.out _ H1.out.2
              
              go_upto_region 8 with (go_at_call 77; refine (rput7_any w0.heap.size A1 4 c1 (two8 k 3 ++ le8 ct 2) 0 4 w1 (by omega) (by omega) (by omega) (by omega) H1.out.2.size H1.out.1).mono ?_; rintro e w2 ⟨A2, c2, rfl, hO, hB⟩; (have H2 := Aside0.mk (And.intro (show Ow w2 w0.heap.size A2 8 c2 ((two8 k 3 ++ le8 ct 2) ++ le8 0 4) from hO) (H1.out.2.trans hB))); clear hO hB)
              have hbd : Below w2.heap.size w2 w2.drew := below_drew (Below.refl _ _)
              have T0 := Aside0.mk (And.intro (H2.out.1.below hbd) (below_then H2.out.2 H2.out.2.size hbd))
              obtain ⟨u0, hu0⟩ : ∃ X, w2.drew = X := ⟨_, rfl⟩
              rw [hu0] at T0
              clear hbd y0 y1 y2 y3
              have i0 : iwI 3 = 8 := rfl
              refine wp_region_M (fun j => decide (j < 10)) (fun w' => w'.cell? ⟨N, 0, none⟩ = some (.int .i64 k) ∧ w'.cell? ⟨N, 1, none⟩ = some (.int .i64 3) ∧ w'.cell? ⟨N, 2, none⟩ = some (.int .i64 ct) ∧ w'.cell? ⟨N, 3, none⟩ = some (.int .i64 nx)) (by kernel_rfl) ?_
              rw [hu0]
              clear hu0
              refine wpAnyM_take (i := 0) (v := ?_) (by simp only [List.getElem?_toArray, List.getElem?_cons_succ, List.getElem?_cons_zero]; rfl) (by kernel_rfl) (by kernel_rfl) (by kernel_rfl) (by kernel_rfl) (by exact fun _ _ _ h => h) (Or.inl ⟨by rfl, ?_⟩) (HS.out _ T0.out.2) ?_
              rotate_left
              · (intro w' hSw; (try dsimp only at hSw); go_simp; try with_reducible rfl)
              try simp only [Act.put, List.setIfInBounds_toArray, List.set_cons_zero, List.set_cons_succ]
              refine wpAnyM_take (i := 1) (v := ?_) (by simp only [List.getElem?_toArray, List.getElem?_cons_succ, List.getElem?_cons_zero]; rfl) (by kernel_rfl) (by kernel_rfl) (by kernel_rfl) (by kernel_rfl) (by exact fun _ _ _ h => h) (Or.inl ⟨by rfl, ?_⟩) (HS.out _ T0.out.2) ?_
              rotate_left
              · (intro w' hSw; (try dsimp only at hSw); go_simp; try with_reducible rfl)
              try simp only [Act.put, List.setIfInBounds_toArray, List.set_cons_zero, List.set_cons_succ]
              refine wpAnyM_take (i := 2) (v := ?_) (by simp only [List.getElem?_toArray, List.getElem?_cons_succ, List.getElem?_cons_zero]; rfl) (by kernel_rfl) (by kernel_rfl) (by kernel_rfl) (by kernel_rfl) (by exact fun _ _ _ h => h) (Or.inl ⟨by rfl, ?_⟩) (HS.out _ T0.out.2) ?_
              rotate_left
              · (intro w' hSw; (try dsimp only at hSw); go_simp; try with_reducible rfl)
              try simp only [Act.put, List.setIfInBounds_toArray, List.set_cons_zero, List.set_cons_succ]
              refine wpAnyM_take (i := 3) (v := ?_) (by simp only [List.getElem?_toArray, List.getElem?_cons_succ, List.getElem?_cons_zero]; rfl) (by kernel_rfl) (by kernel_rfl) (by kernel_rfl) (by kernel_rfl) (by exact fun _ _ _ h => h) (Or.inl ⟨by rfl, ?_⟩) (HS.out _ T0.out.2) ?_
              rotate_left
              · (intro w' hSw; (try dsimp only at hSw); go_simp; try with_reducible rfl)
              try simp only [Act.put, List.setIfInBounds_toArray, List.set_cons_zero, List.set_cons_succ]
              refine wpAnyM_take (i := 4) (v := ?_) (by simp only [List.getElem?_toArray, List.getElem?_cons_succ, List.getElem?_cons_zero]; rfl) (by kernel_rfl) (by kernel_rfl) (by kernel_rfl) (by kernel_rfl) (by exact fun _ _ _ h => h) (Or.inl ⟨by rfl, ?_⟩) (HS.out _ T0.out.2) ?_
              rotate_left
              · (intro w' hSw; (try dsimp only at hSw); go_simp; try with_reducible rfl)
              try simp only [Act.put, List.setIfInBounds_toArray, List.set_cons_zero, List.set_cons_succ]
              refine wpAnyM_take (i := 7) (v := ?_) (by simp only [List.getElem?_toArray, List.getElem?_cons_succ, List.getElem?_cons_zero]; rfl) (by kernel_rfl) (by kernel_rfl) (by kernel_rfl) (by kernel_rfl) (by exact fun _ _ _ h => h) (Or.inl ⟨by rfl, ?_⟩) (HS.out _ T0.out.2) ?_
              rotate_left
              · (intro w' hSw; (try dsimp only at hSw); go_simp; try with_reducible rfl)
              try simp only [Act.put, List.setIfInBounds_toArray, List.set_cons_zero, List.set_cons_succ]
              refine wpAnyM_one (i := 5) (by kernel_rfl) (by simp only [List.getElem?_toArray, List.getElem?_cons_succ, List.getElem?_cons_zero]; rfl) ?_
              go_wp2_with (go_at_call 67; refine (rIdWidth_any 3 _).mono ?_; rintro e w9 ⟨rfl, rfl⟩; rw [i0])
              refine ⟨HS.out _ T0.out.2, ?_⟩
              try simp only [Act.put, List.setIfInBounds_toArray, List.set_cons_zero, List.set_cons_succ]
              refine wpAnyM_one (i := 6) (by kernel_rfl) (by simp only [List.getElem?_toArray, List.getElem?_cons_succ, List.getElem?_cons_zero]; rfl) ?_
              go_wp2_with (go_at_call 77; refine (rput7_any w0.heap.size A2 8 c2 ((two8 k 3 ++ le8 ct 2) ++ le8 0 4) nx 8 u0 HB1.out.2.2.1 (by have := HCX.out.2; omega) (by omega) (by omega) T0.out.2.size T0.out.1).mono ?_; rintro e u1 ⟨A3, c3, rfl, hO, hB⟩; (have T1 := Aside0.mk (And.intro (show Ow u1 w0.heap.size A3 16 c3 (((two8 k 3 ++ le8 ct 2) ++ le8 0 4) ++ le8 nx 8) from hO) (T0.out.2.trans hB))); clear hO hB)
              refine ⟨HS.out _ T1.out.2, ?_⟩
              try simp only [Act.put, List.setIfInBounds_toArray, List.set_cons_zero, List.set_cons_succ]
              refine wpAnyM_one (i := 8) (by kernel_rfl) (by simp only [List.getElem?_toArray, List.getElem?_cons_succ, List.getElem?_cons_zero]; rfl) ?_
              refine wpl_a8 (w0 := w0) w0.heap.size (by rfl) (.tmp 65) (.tmp 66) (by rfl) A3 16 c3 (((two8 k 3 ++ le8 ct 2) ++ le8 0 4) ++ le8 nx 8) B m d ys (16 + m) ((((two8 k 3 ++ le8 ct 2) ++ le8 0 4) ++ le8 nx 8) ++ ys) (by rfl) (by rfl) T1.out.1 (H0.out.2.2.2.below T1.out.2) T1.out.2 T1.out.2.size rfl (by have := HB1.out; omega) rfl ?_
              intro A4 c4 u2 hO hB
              have T2 := Aside0.mk (And.intro hO.out hB.out)
              clear hO hB
              refine wpl_nil (And.intro rfl (And.intro (fun _ => HS.out _ T2.out.2) ?_))
              try simp only [Act.put, List.setIfInBounds_toArray, List.set_cons_zero, List.set_cons_succ]
              refine wpAnyM_take (i := 9) (v := ?_) (by simp only [List.getElem?_toArray, List.getElem?_cons_succ, List.getElem?_cons_zero]; rfl) (by kernel_rfl) (by kernel_rfl) (by kernel_rfl) (by kernel_rfl) (by exact fun _ _ _ h => h) (Or.inl ⟨by rfl, ?_⟩) (HS.out _ T2.out.2) ?_
              rotate_left
              · (intro w' hSw; (try dsimp only at hSw); go_simp; try with_reducible rfl)
              try simp only [Act.put, List.setIfInBounds_toArray, List.set_cons_zero, List.set_cons_succ]
              refine wpAnyM_done (by kernel_rfl) ?_ _
              clear i0
              obtain ⟨p, hp⟩ : ∃ x, 256 - (16 + m) = x := ⟨_, rfl⟩
              have HP := Aside0.mk hp
              have HHD := Aside0.mk (show rwHd k 3 ct nx = ((two8 k 3 ++ le8 ct 2) ++ le8 0 4) ++ le8 nx 8 by unfold rwHd; rw [if_pos (by decide)]; rfl)
              clear hp
              go_wp2_with fail
              go_loopg [6] p (fun gk v6 wr => ∃ (j : Nat) (A6 : Option Addr) (c6 nn : Nat), Aside (gk + j = p) ∧ v6 = .slice A6 nn c6 ∧ Aside0 (nn = 16 + m + j ∧ Ow wr w0.heap.size A6 nn c6 (((((two8 k 3 ++ le8 ct 2) ++ le8 0 4) ++ le8 nx 8) ++ ys) ++ List.replicate j 0) ∧ Below w0.heap.size w0 wr))
              case atStart => exact ⟨0, A4, c4, 16 + m, rfl, rfl, ⟨rfl, by rw [List.replicate_zero, List.append_nil]; exact T2.out.1, T2.out.2⟩⟩
              case round =>
                obtain ⟨j, A6, c6, nn, hk, rfl, hI⟩ := hrel
                have hjp : j ≤ p := by have := hk.out; omega
                rcases Nat.lt_or_ge j p with hlt | hge
                · have gr : decide ((nn : Int) < 256) = true := decide_eq_true (by have := HP.out; have := hI.out.1; omega)
                  have HLt := Aside0.mk (Bs.lit wr wr.heap.size rfl #[.int .u8 0] 5 (0, 0) 1 1 [0] rfl rfl (Nat.le_refl _) (by omega) (by omega))
                  have HA := Aside0.mk (And.intro (hI.out.2.1.alloc (.cells #[.int .u8 0] 5)) (below_alloc hI.out.2.2 hI.out.2.2.size (.cells #[.int .u8 0] 5)))
                  have HZ := Aside0.mk (show (((((two8 k 3 ++ le8 ct 2) ++ le8 0 4) ++ le8 nx 8) ++ ys) ++ List.replicate j 0) ++ [0] = ((((two8 k 3 ++ le8 ct 2) ++ le8 0 4) ++ le8 nx 8) ++ ys) ++ List.replicate (j + 1) (0 : UInt8) by rw [List.append_assoc _ _ [0], List.replicate_succ'])
                  have HNN := Aside0.mk (show nn ≤ 1000 by have := hI.out.1; have := HP.out; have := HB1.out; omega)
                  go_wp2_with (at_builtin; (refine wpl_a8 (w0 := w0) w0.heap.size rfl _ _ rfl A6 nn c6 (((((two8 k 3 ++ le8 ct 2) ++ le8 0 4) ++ le8 nx 8) ++ ys) ++ List.replicate j 0) _ 1 1 [0] (nn + 1) (((((two8 k 3 ++ le8 ct 2) ++ le8 0 4) ++ le8 nx 8) ++ ys) ++ List.replicate (j + 1) 0) rfl rfl HA.out.1 HLt.out HA.out.2 (by have := hI.out.2.2.size; first | (simp; done) | (simp; omega)) rfl (by have := HNN.out; omega) HZ.out ?_); intro A8 c8 w8 hO8 hB8)
                  go_roundg (p - (j + 1))
                  case measure => have := hk.out; omega
                  case rel => exact ⟨j + 1, A8, c8, nn + 1, by have := hk.out; exact (show p - (j + 1) + (j + 1) = p by omega), rfl, ⟨by have := hI.out.1; omega, hO8.out, hB8.out⟩⟩
                · obtain rfl : p = j := by omega
                  have HNE := Aside0.mk (show nn = 256 by have := HP.out; have := hI.out.1; have := HB1.out; omega)
                  have gr : decide ((nn : Int) < 256) = false := decide_eq_false (by have := HNE.out; omega)
                  have HPP := Aside0.mk (show rwP k 3 ct nx ys = ((((two8 k 3 ++ le8 ct 2) ++ le8 0 4) ++ le8 nx 8) ++ ys) ++ List.replicate p 0 by
                    unfold rwP
                    rw [HHD.out]
                    congr 2
                    rw [← HP.out, ← T2.out.1.len])
                  have HBB := Aside0.mk (show rwB k 3 ct nx ys = rsealB (rwP k 3 ct nx ys) 4 by unfold rwB; rw [if_pos HGD.out]; exact if_pos (by decide))
                  have HE := Aside0.mk (show rwE k 3 ct nx m = 0 by rw [← HML.out]; exact HGD.out)
                  obtain ⟨y0, y1, y2, y3⟩ := HS.out _ hI.out.2.2
                  have h5 := hI.out.2.1
                  rw [← HPP.out] at h5
                  have H5 := Aside0.mk h5
                  clear h5
                  go_wp2_with (go_at_call 90; refine (rseal_any A6 nn c6 _ 4 _ H5.out.bs (by have := HNE.out; omega)).mono ?_; rintro e w7 ⟨A7, c7, rfl, hO, hB⟩; (have H7 := Aside0.mk (And.intro hO (below_then hI.out.2.2 hI.out.2.2.size hB))); clear hO hB)
                  go_ret2
                  rw [HE.out, HBB.out, H7.out.1.len]
                  exact ⟨A7, c7, rfl, H7.out.1.mono (Nat.le_trans H0B.out.size hI.out.2.2.size), below_then H0B.out H0B.out.size H7.out.2⟩
end Go.Proofs.Ytbjfklgmbeaaoaa
