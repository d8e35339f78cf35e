/- source.same: whether pages have just these bytes. -/
import Derived.Test.YtbjfklgmbeaaoaaWJ
set_option linter.unusedVariables false
set_option linter.unusedSimpArgs false
namespace Go.Proofs.Ytbjfklgmbeaaoaa
open Go.RowKit

theorem smB_yes {r : RP} {zs : List Int} {l : List (List UInt8)} (h : ∀ i, i < zs.length → smAt r zs l i = true) : smB r zs l = true := List.all_eq_true.2 (fun i hi => h i (List.mem_range.1 hi))
theorem smB_no {r : RP} {zs : List Int} {l : List (List UInt8)} {j : Nat} (hj : j < zs.length) (h : smAt r zs l j = false) : smB r zs l = false := by
  cases hq : smB r zs l with
  | false => rfl
  | true => rw [List.all_eq_true.1 hq j (List.mem_range.2 hj)] at h; cases h
theorem getD_at {α : Type} {l : List α} {i : Nat} {x d : α} (h : l[i]? = some x) : l.getD i d = x := by rw [List.getD_eq_getElem?_getD, h]; rfl
theorem Pgf.only {W W1 : World} {base t : Nat} {hs : List SH} {l : List (List UInt8)} (h : Pgf W base hs l) (ho : OnlyB t W W1) (ht : t < base) : Pgf W1 base hs l :=
  ⟨h.len, fun j p hj => by
    obtain ⟨q, a, b, c⟩ := h.each j p hj
    exact ⟨q, a, Bs.only b ho (fun ad e _ => by have := c ad e; omega), c⟩⟩
set_option maxHeartbeats 8000000 in
set_option maxRecDepth 100000 in
theorem ssame_any {w0 : World} {F : Nat} {caps : Array Value} {ar : Int → Int → Array Value} {t : Nat} {r : RP} {Box : Nat → World → Prop} (hR : Rdr w0 F caps ar t r Box) (k : Nat) (g id many : Int) (b : Nat) (A : Option Addr) (n c : Nat) (zs : List Int) (B : Option Addr) (m d : Nat) (hs : List SH) (l : List (List UInt8)) (w : World) (ho : OnlyB t w0 w) (hb : Box k w)
    (hz2 : ∀ z, z ∈ zs → -9223372036854775808 ≤ z ∧ z ≤ 9223372036854775807) (htb : t < b) (hz : Oc w b 3 1 A n c (iv zs)) (hl : Oc w b 27 1 B m d (shl hs)) (hp : Pgf w b hs l) (hnm : n ≤ m) :
    Calls Try.prog 48 #[.agg #[.func (.func F) #[] caps, .int .i64 g, .int .i64 id, .int .i64 many], .slice A n c, .slice B m d] w fun e w' => ∃ k', e = .returned (.bool (smB r zs l)) ∧ Box k' w' ∧ k' ≤ k + n ∧ OnlyB t w w' := by
  have ht : t < w.heap.size := Nat.lt_of_lt_of_le hR.lt ho.size
  have hlen : zs.length = n := by have := hz.len; rw [iv_len] at this; omega
  have hhl : hs.length = m := by have := hl.len; rw [shl_len] at this; omega
  have hlim := hz.lim
  have HR := Aside0.mk hR
  have hbx := Aside0.mk hR.box
  have HO := Aside0.mk ho
  have HN := Aside0.mk (And.intro hlen hhl)
  have HZ2 := Aside0.mk hz2
  have HT := Aside0.mk htb
  have hB1 := (Below.refl _ w).alloc (Nat.le_refl _) (.cells #[.func (.func F) #[] caps, .int .i64 g, .int .i64 id, .int .i64 many] 85)
  have h1 : w.heap.size ≠ t ∧ OnlyB t w (w.alloc (.cells #[.func (.func F) #[] caps, .int .i64 g, .int .i64 id, .int .i64 many] 85)) ∧ Box k (w.alloc (.cells #[.func (.func F) #[] caps, .int .i64 g, .int .i64 id, .int .i64 many] 85)) ∧ (w.alloc (.cells #[.func (.func F) #[] caps, .int .i64 g, .int .i64 id, .int .i64 many] 85)).heap[w.heap.size]? = some (.cells #[.func (.func F) #[] caps, .int .i64 g, .int .i64 id, .int .i64 many] 85) ∧ Oc (w.alloc (.cells #[.func (.func F) #[] caps, .int .i64 g, .int .i64 id, .int .i64 many] 85)) b 3 1 A n c (iv zs) ∧ Oc (w.alloc (.cells #[.func (.func F) #[] caps, .int .i64 g, .int .i64 id, .int .i64 many] 85)) b 27 1 B m d (shl hs) ∧ Pgf (w.alloc (.cells #[.func (.func F) #[] caps, .int .i64 g, .int .i64 id, .int .i64 many] 85)) b hs l :=
    ⟨by omega, OnlyB.of_below hB1, hR.box _ _ _ (Below.heap_alloc w _ t ht) hb, heap_alloc_new w _, hz.below hB1, hl.below hB1, hp.below hB1⟩
  clear hR ho hb hz2 hz hl hp hlen hhl htb hB1
  go_enter Try.func48, Try.ntmps48
  go_upto_region 1 with fail
  obtain ⟨w1, hw1⟩ : ∃ X, w.alloc (.cells #[.func (.func F) #[] caps, .int .i64 g, .int .i64 id, .int .i64 many] 85) = X := ⟨_, rfl⟩
  obtain ⟨N, hN⟩ : ∃ X, w.heap.size = X := ⟨_, rfl⟩
  rw [hw1, hN] at h1
  rw [hw1, hN]
  have H1 := Aside0.mk h1
  clear h1 hw1 hN
  go_wp2_with fail
  go_loopg [13] n (fun gk v13 wr => ∃ (j k' : Nat), Aside (gk + j = n) ∧ v13 = .int .i64 (j : Int) ∧ Aside0 (OnlyB t w1 wr ∧ Box k' wr ∧ k' ≤ k + j ∧ ∀ i, i < j → smAt r zs l i = true))
  case atStart => exact ⟨0, k, rfl, rfl, ⟨OnlyB.refl _ _, H1.out.2.2.1, Nat.le_refl _, fun i hi => by omega⟩⟩
  case round =>
    obtain ⟨j, k', hk, rfl, hI⟩ := hrel
    have hjm : j ≤ n := by have := hk.out; omega
    rcases Nat.lt_or_ge j n with hlt | hge
    · have dj1 : decide ((j : Int) < (n : Int)) = true := decide_eq_true (by omega)
      have djn : (j : Int) < (n : Int) := by omega
      have djm : (j : Int) < (m : Int) := by omega
      have wj : IntKind.i64.wrap ((j : Int) + 1) = ((j + 1 : Nat) : Int) := IntWalk.i64_in _ (by omega)
      have hOz := H1.out.2.2.2.2.1.only hI.out.1 (fun i e => by have := H1.out.2.2.2.2.1.lo i e; have := HT.out; omega)
      have hOl := H1.out.2.2.2.2.2.1.only hI.out.1 (fun i e => by have := H1.out.2.2.2.2.2.1.lo i e; have := HT.out; omega)
      obtain ⟨ad, z, rfl, hzj, k0⟩ := hOz.rc.int j hlt
      have HZJ := Aside0.mk (And.intro hzj (HZ2.out z (List.mem_of_getElem? hzj)))
      clear hzj hOz
      go_upto_region 4 with fail
      clear k0
      obtain ⟨bb, hbb⟩ : ∃ x, r.b z 1 = x := ⟨_, rfl⟩
      obtain ⟨ee, hee⟩ : ∃ x, r.e z 1 = x := ⟨_, rfl⟩
      have HBE := Aside0.mk (And.intro hbb hee)
      have HOL := Aside0.mk hOl
      clear hOl
      go_cut [9, 10] (fun v9 v10 wx => ∃ (A2 : Option Addr) (c2 : Nat), v9 = .slice A2 bb.length c2 ∧ v10 = .int .i64 ee ∧ Aside0 (OnlyB t wr wx ∧ Box (k' + 1) wx ∧ Bs wx A2 bb.length c2 bb))
      case first =>
        have z0 := (item_cells2 (((hI.out.1.block _ (Array.getElem?_eq_some_iff.1 H1.out.2.2.2.1).1 H1.out.1)).trans H1.out.2.2.2.1)).1
        have hcall := HR.out.call k' z 1 wr (HO.out.trans (H1.out.2.1.trans hI.out.1)) hI.out.2.1 HZJ.out.2 ⟨by omega, by omega⟩
        rw [hbb, hee] at hcall
        clear hbb hee
        rcases HR.out.kind with ⟨rfl, p, rfl, rfl⟩ | ⟨rfl, p, q, rfl, rfl⟩
        · dsimp only at hcall
          go_wp2_with (go_at_call 43; refine hcall.mono ?_; rintro e w3 ⟨A2, c2, rfl, hB3, hne3, hx3, ho3⟩; (have H3 := Aside0.mk (And.intro ho3 (And.intro hx3 hB3))); clear hB3 ho3 hx3 hne3)
          go_meet
          exact ⟨A2, c2, rfl, rfl, H3⟩
        · dsimp only at hcall
          go_wp2_with (go_at_call 50; refine hcall.mono ?_; rintro e w3 ⟨A2, c2, rfl, hB3, hne3, hx3, ho3⟩; (have H3 := Aside0.mk (And.intro ho3 (And.intro hx3 hB3))); clear hB3 ho3 hx3 hne3)
          go_meet
          exact ⟨A2, c2, rfl, rfl, H3⟩
      case rest =>
        obtain ⟨A2, c2, rfl, rfl, HC⟩ := hcut
        clear hbb hee
        by_cases t1 : ee = 0
        case neg =>
          have b1 : (ee != 0) = true := bne_iff_ne.2 t1
          have HS := Aside0.mk (smB_no (l := l) (by rw [HN.out.1]; exact hlt) (show smAt r zs l j = false by unfold smAt; rw [getD_at HZJ.out.1, HBE.out.2, decide_eq_false t1]; rfl))
          clear t1
          go_wp2_with fail
          go_ret
          exact ⟨k' + 1, by rw [HS.out]; rfl, HC.out.2.1, by have := hI.out.2.2.1; omega, H1.out.2.1.trans (hI.out.1.trans HC.out.1)⟩
        case pos =>
          have b1 : (ee != 0) = false := by rw [t1]; exact bne_self_eq_false _
          have HT1 := Aside0.mk t1
          clear t1
          have hOl2 := HOL.out.only HC.out.1 (fun i e => by have := HOL.out.lo i e; have := HT.out; omega)
          have hPl2 := (H1.out.2.2.2.2.2.2.only hI.out.1 HT.out).only HC.out.1 HT.out
          obtain ⟨adl, ⟨pa, pn, pc⟩, rfl, hpj, k1⟩ := hOl2.rc.sh HN.out.2 j (by omega)
          obtain ⟨q, hq, hbq, _⟩ := hPl2.each j _ hpj
          have HQB := Aside0.mk (show Bs wc pa pn pc q from hbq)
          unfold shv at k1
          simp only at k1
          have HQ := Aside0.mk (And.intro hq hOl2)
          clear hpj hq hbq hPl2 hOl2
          cases qe : (bb == q) with
          | true =>
            have HSA := Aside0.mk (show smAt r zs l j = true by unfold smAt; rw [getD_at HZJ.out.1, HBE.out.2, HBE.out.1, getD_at HQ.out.1, decide_eq_true HT1.out, decide_eq_true (eq_of_beq qe)]; rfl)
            have HE := Aside0.mk qe
            clear qe
            go_wp2_with (go_at_call 20; refine (equal8_any A2 bb.length c2 bb pa pn pc q wc HC.out.2.2 HQB.out).mono ?_; rintro e w4 ⟨rfl, rfl⟩; rw [HE.out])
            go_roundg (n - (j + 1))
            case measure => have := hk.out; omega
            case rel => exact ⟨j + 1, k' + 1, (by show n - (j + 1) + (j + 1) = n; omega), by go_num, ⟨hI.out.1.trans HC.out.1, HC.out.2.1, by have := hI.out.2.2.1; omega, fun i hi => by
              rcases Nat.lt_or_ge i j with h3 | h3
              · exact hI.out.2.2.2 i h3
              · obtain rfl : i = j := by omega
                exact HSA.out⟩⟩
          | false =>
            have HS := Aside0.mk (smB_no (l := l) (by rw [HN.out.1]; exact hlt) (show smAt r zs l j = false by unfold smAt; rw [getD_at HZJ.out.1, HBE.out.2, HBE.out.1, getD_at HQ.out.1, decide_eq_false (show ¬ bb = q from fun e => by rw [e] at qe; simp at qe), Bool.and_false]))
            have HE := Aside0.mk qe
            clear qe
            go_wp2_with (go_at_call 20; refine (equal8_any A2 bb.length c2 bb pa pn pc q wc HC.out.2.2 HQB.out).mono ?_; rintro e w4 ⟨rfl, rfl⟩; rw [HE.out])
            go_ret
            exact ⟨k' + 1, by rw [HS.out]; rfl, HC.out.2.1, by have := hI.out.2.2.1; omega, H1.out.2.1.trans (hI.out.1.trans HC.out.1)⟩
    · obtain rfl : n = j := by omega
      have dj1 : decide ((n : Int) < (n : Int)) = false := by simp
      have HS := Aside0.mk (smB_yes (r := r) (l := l) (fun i hi => hI.out.2.2.2 i (by rw [HN.out.1] at hi; exact hi)))
      go_wp2_with fail
      go_ret
      exact ⟨k', by rw [HS.out]; rfl, hI.out.2.1, hI.out.2.2.1, H1.out.2.1.trans hI.out.1⟩
end Go.Proofs.Ytbjfklgmbeaaoaa
