/- A pager's newest meta. -/
import Derived.Test.YthhalmjapiempaaN1
import Derived.Test.YthhalmjapiempaaZA
set_option linter.unusedVariables false
set_option linter.unusedSimpArgs false
namespace Go.Proofs.Ythhalmjapiempaa
open Go.RowKit

/-- A meta, as a value. -/
structure MV where
  ge : Int
  ph : Int
  tg : Int
  tx : Int
  rt : Int
  pg : Int
  li : Int
  cu : List UInt8
def MV.agg (m : MV) (A : Option Addr) (c : Nat) : Array Value := #[.int .i64 m.ge, .int .i64 m.ph, .int .i64 m.tg, .int .i64 m.tx, .int .i64 m.rt, .int .i64 m.pg, .int .i64 m.li, .slice A m.cu.length c]
def mv0 : MV := ⟨0, 0, 0, 0, 0, 0, 0, []⟩
def mvOf (xs : List UInt8) : MV := ⟨rdGe xs, rdPh xs, rdTg xs, rdTx xs, rdRt xs, rdPg xs, rdLi xs, rdCu xs⟩
/-- Which of two pages is chosen: -1, 0 or 1. -/
def chP (xs ys : List UInt8) : Int := chAt (decE xs) (rdTx xs) (decE ys) (rdTx ys)
def newAt (d : DV) : Int := if d.down = true then -1 else chP (someB d 0 1) (someB d 1 1)
def newE (d : DV) : Int := if d.down = true then 10 else if chP (someB d 0 1) (someB d 1 1) = -1 then chE (decE (someB d 0 1)) (decE (someB d 1 1)) else 0
def newM (d : DV) : MV := if d.down = true then mv0 else if chP (someB d 0 1) (someB d 1 1) = 0 then mvOf (someB d 0 1) else if chP (someB d 0 1) (someB d 1 1) = 1 then mvOf (someB d 1 1) else mv0
def z8 : Array Value := #[.int .i64 0, .int .i64 0, .int .i64 0, .int .i64 0, .int .i64 0, .int .i64 0, .int .i64 0, .slice none 0 0]
def NewQ (d : DV) (W : World) (e : Ending) (w' : World) : Prop := ∃ A1 c1, e = .returned (.tuple #[.agg ((newM d).agg A1 c1), .int .i64 (newAt d), .int .i64 (newE d)]) ∧ Bs w' A1 (newM d).cu.length c1 (newM d).cu ∧ Below W.heap.size W w'
theorem bs_set8 {W : World} {g : Nat} {A : Option Addr} {n c : Nat} {xs : List UInt8} (h : Bs W A n c xs) (hne : 0 < n → ∀ a, A = some a → a.block ≠ g) (v0 v1 v2 v3 v4 v5 v6 v7 : Value) :
    Bs ((((((((W.setCell ⟨g, 0, none⟩ v0).setCell ⟨g, 1, none⟩ v1).setCell ⟨g, 2, none⟩ v2).setCell ⟨g, 3, none⟩ v3).setCell ⟨g, 4, none⟩ v4).setCell ⟨g, 5, none⟩ v5).setCell ⟨g, 6, none⟩ v6).setCell ⟨g, 7, none⟩ v7) A n c xs :=
  h.blk fun a e h0 => (only_set8 v0 v1 v2 v3 v4 v5 v6 v7).block _ (h.lt a e h0) (hne h0 a e)
set_option maxHeartbeats 8000000 in
set_option maxRecDepth 100000 in
theorem newest_h {w0 : World} {g gp : Nat} {R : List (Nat × Obj)} {d : DV} {W : World} (h : DH w0 g R d W) (hp : (gp, pgo g) ∈ R) :
    Calls Try.prog 16 #[.pointer (some ⟨gp, 0, none⟩)] W (NewQ d W) := by
  have H0 := Aside0.mk (And.intro (h.lit (.cells z8 36)) (And.intro (List.mem_cons_of_mem (W.heap.size, .cells z8 36) hp) ((Below.refl _ W).alloc (Nat.le_refl _) (.cells z8 36))))
  clear h hp
  have hz : z8 = #[.int .i64 0, .int .i64 0, .int .i64 0, .int .i64 0, .int .i64 0, .int .i64 0, .int .i64 0, .slice none 0 0] := rfl
  go_enter Try.func16, Try.ntmps16
  go_upto_region 1 with fail
  rw [← hz]
  obtain ⟨W0, hW0⟩ : ∃ X, W.alloc (.cells z8 36) = X := ⟨_, rfl⟩
  obtain ⟨N, hN⟩ : ∃ X, W.heap.size = X := ⟨_, rfl⟩
  rw [hW0, hN] at H0
  rw [hW0, hN]
  replace hN := Aside0.mk hN
  have c0 := pgo_cell (H0.out.1.row H0.out.2.1)
  have HN0 := Aside0.mk (show N < W0.heap.size from H0.out.1.lt _ List.mem_cons_self)
  clear hW0 hz
  cases hd : d.down with
  | true =>
    have HQ := Aside0.mk (show newM d = mv0 ∧ newAt d = -1 ∧ newE d = 10 from ⟨if_pos hd, if_pos hd, if_pos hd⟩)
    have hr := H0.out.1.row (i := N) List.mem_cons_self
    obtain ⟨y0, y1, y2, y3, y4, y5, y6, y7⟩ := row8_cells hr
    have yf := fun j => Go.Joins.unfrozen_of_block hr j
    have HL := Aside0.mk (mload (row8_set (.int .i64 0) (.int .i64 0) (.int .i64 0) (.int .i64 0) (.int .i64 0) (.int .i64 0) (.int .i64 0) (.slice none 0 0) hr))
    clear hr
    go_wp2_with (go_at_call 47; refine (down_h H0.out.1).mono ?_; rintro e w1 ⟨rfl, rfl⟩; rw [hd])
    have hL := HL.out
    refine bodyPost_ret (v := .tuple #[.agg #[.int .i64 0, .int .i64 0, .int .i64 0, .int .i64 0, .int .i64 0, .int .i64 0, .int .i64 0, .slice none 0 0], .int .i64 (-1), .int .i64 10]) (by simp [results, Try.results16, asAddr, hL]) rfl ⟨none, 0, ?_, ?_, ?_⟩
    · rw [HQ.out.1, HQ.out.2.1, HQ.out.2.2]; rfl
    · rw [HQ.out.1]; exact Bs.nil _ _ _ (by omega)
    · rw [hN.out]; exact below_set8 _ _ _ _ _ _ _ _ H0.out.2.2 (Nat.le_refl _)
  | false =>
    have hnd : ¬ d.down = true := by rw [hd]; decide
    have HQ := Aside0.mk (show newAt d = chP (someB d 0 1) (someB d 1 1) ∧ newE d = (if chP (someB d 0 1) (someB d 1 1) = -1 then chE (decE (someB d 0 1)) (decE (someB d 1 1)) else 0) ∧ newM d = (if chP (someB d 0 1) (someB d 1 1) = 0 then mvOf (someB d 0 1) else if chP (someB d 0 1) (someB d 1 1) = 1 then mvOf (someB d 1 1) else mv0) from ⟨if_neg hnd, if_neg hnd, if_neg hnd⟩)
    clear hnd
    go_upto_region 4 with (first
      | (go_at_call 47; refine (down_h H0.out.1).mono ?_; rintro e w1 ⟨rfl, rfl⟩; rw [hd])
      | (go_at_call 35; refine (ppage_h H0.out.1 H0.out.2.1 0).mono ?_; rintro e w1 ⟨A1, c1, rfl, hO, hB⟩; (have H1 := Aside0.mk (And.intro (H0.out.1.step hB) (And.intro (below_then H0.out.2.2 (Nat.le_of_lt HN0.out) hB) (And.intro hO (And.intro hO.bs hB))))); clear hO hB))
    go_upto_region 5 with (go_at_call 35; refine (ppage_h H1.out.1 H0.out.2.1 1).mono ?_; rintro e w2 ⟨A2, c2, rfl, hO, hB⟩; (have H2 := Aside0.mk (And.intro (H1.out.1.step hB) (And.intro (below_then H1.out.2.1 (Nat.le_of_lt (H1.out.1.lt _ List.mem_cons_self)) hB) (And.intro (H1.out.2.2.2.1.below hB) hO.bs)))); clear hO hB)
    clear c0
    obtain ⟨pa, hpa⟩ : ∃ x, someB d 0 1 = x := ⟨_, rfl⟩
    obtain ⟨pb, hpb⟩ : ∃ x, someB d 1 1 = x := ⟨_, rfl⟩
    rw [hpa, hpb] at H2 HQ
    rw [hpa, hpb]
    clear hpa hpb H1
    go_wp2_with fail
    refine (mchoose_own A1 _ c1 pa A2 _ c2 pb w2 H2.out.2.2.1 H2.out.2.2.2).mono ?_
    rintro e w3 ⟨hB3, hc⟩
    have H3 := Aside0.mk (And.intro (H2.out.1.step hB3) (below_then H2.out.2.1 (Nat.le_of_lt (H2.out.1.lt _ List.mem_cons_self)) hB3))
    clear hB3
    rcases hc with ⟨hk, rfl⟩ | ⟨hk, A3, c3, rfl, hb⟩ | ⟨hk, A3, c3, rfl, hb⟩
    · have HK := Aside0.mk (show chP pa pb = -1 from hk)
      clear hk
      have hr := H3.out.1.row (i := N) List.mem_cons_self
      obtain ⟨y0, y1, y2, y3, y4, y5, y6, y7⟩ := row8_cells hr
      have yf := fun j => Go.Joins.unfrozen_of_block hr j
      have HL := Aside0.mk (mload (row8_set (.int .i64 0) (.int .i64 0) (.int .i64 0) (.int .i64 0) (.int .i64 0) (.int .i64 0) (.int .i64 0) (.slice none 0 0) hr))
      clear hr
      go_wp2_with fail
      have hL := HL.out
      refine bodyPost_ret (v := .tuple #[.agg #[.int .i64 0, .int .i64 0, .int .i64 0, .int .i64 0, .int .i64 0, .int .i64 0, .int .i64 0, .slice none 0 0], .int .i64 (-1), .int .i64 (chE (decE pa) (decE pb))]) (by simp [results, Try.results16, asAddr, hL]) rfl ?_
      have hM : newM d = mv0 := by rw [HQ.out.2.2, HK.out]; rfl
      refine ⟨none, 0, ?_, ?_, ?_⟩
      · rw [hM, HQ.out.1, HQ.out.2.1, HK.out]; rfl
      · rw [hM]; exact Bs.nil _ _ _ (by omega)
      · rw [hN.out]; exact below_set8 _ _ _ _ _ _ _ _ H3.out.2 (Nat.le_refl _)
    · have HK := Aside0.mk (show chP pa pb = 0 from hk)
      have HB3 := Aside0.mk hb
      have hlb := hb.lim
      clear hk hb
      have hr := H3.out.1.row (i := N) List.mem_cons_self
      obtain ⟨y0, y1, y2, y3, y4, y5, y6, y7⟩ := row8_cells hr
      have yf := fun j => Go.Joins.unfrozen_of_block hr j
      have HL := Aside0.mk (mload (row8_set (.int .i64 (rdGe pa)) (.int .i64 (rdPh pa)) (.int .i64 (rdTg pa)) (.int .i64 (rdTx pa)) (.int .i64 (rdRt pa)) (.int .i64 (rdPg pa)) (.int .i64 (rdLi pa)) (.slice A3 (rdCu pa).length c3) hr))
      clear hr
      go_wp2_with fail
      have hL := HL.out
      refine bodyPost_ret (v := .tuple #[.agg #[.int .i64 (rdGe pa), .int .i64 (rdPh pa), .int .i64 (rdTg pa), .int .i64 (rdTx pa), .int .i64 (rdRt pa), .int .i64 (rdPg pa), .int .i64 (rdLi pa), .slice A3 (rdCu pa).length c3], .int .i64 (0), .int .i64 (0)]) (by simp [results, Try.results16, asAddr, hL]) rfl ?_
      have hM : newM d = mvOf pa := by rw [HQ.out.2.2, HK.out]; rfl
      refine ⟨A3, c3, ?_, ?_, ?_⟩
      · rw [hM, HQ.out.1, HQ.out.2.1, HK.out]; rfl
      · rw [hM]
        refine bs_set8 HB3.out.bs (fun h0 a q => ?_) _ _ _ _ _ _ _ _
        obtain ⟨i, q2, h1, _⟩ := HB3.out.head h0
        rw [q] at q2
        injection q2 with q2
        have := H2.out.1.lt _ List.mem_cons_self
        rw [q2]
        show i ≠ N
        simp only at this
        omega
      · rw [hN.out]; exact below_set8 _ _ _ _ _ _ _ _ H3.out.2 (Nat.le_refl _)
    · have HK := Aside0.mk (show chP pa pb = 1 from hk)
      have HB3 := Aside0.mk hb
      have hlb := hb.lim
      clear hk hb
      have hr := H3.out.1.row (i := N) List.mem_cons_self
      obtain ⟨y0, y1, y2, y3, y4, y5, y6, y7⟩ := row8_cells hr
      have yf := fun j => Go.Joins.unfrozen_of_block hr j
      have HL := Aside0.mk (mload (row8_set (.int .i64 (rdGe pb)) (.int .i64 (rdPh pb)) (.int .i64 (rdTg pb)) (.int .i64 (rdTx pb)) (.int .i64 (rdRt pb)) (.int .i64 (rdPg pb)) (.int .i64 (rdLi pb)) (.slice A3 (rdCu pb).length c3) hr))
      clear hr
      go_wp2_with fail
      have hL := HL.out
      refine bodyPost_ret (v := .tuple #[.agg #[.int .i64 (rdGe pb), .int .i64 (rdPh pb), .int .i64 (rdTg pb), .int .i64 (rdTx pb), .int .i64 (rdRt pb), .int .i64 (rdPg pb), .int .i64 (rdLi pb), .slice A3 (rdCu pb).length c3], .int .i64 (1), .int .i64 (0)]) (by simp [results, Try.results16, asAddr, hL]) rfl ?_
      have hM : newM d = mvOf pb := by rw [HQ.out.2.2, HK.out]; rfl
      refine ⟨A3, c3, ?_, ?_, ?_⟩
      · rw [hM, HQ.out.1, HQ.out.2.1, HK.out]; rfl
      · rw [hM]
        refine bs_set8 HB3.out.bs (fun h0 a q => ?_) _ _ _ _ _ _ _ _
        obtain ⟨i, q2, h1, _⟩ := HB3.out.head h0
        rw [q] at q2
        injection q2 with q2
        have := H2.out.1.lt _ List.mem_cons_self
        rw [q2]
        show i ≠ N
        simp only at this
        omega
      · rw [hN.out]; exact below_set8 _ _ _ _ _ _ _ _ H3.out.2 (Nat.le_refl _)
end Go.Proofs.Ythhalmjapiempaa
