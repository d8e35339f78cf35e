/- The walk of a pager's Commit. -/
import Derived.Test.YthhalmjapiempaaN4
import Derived.Test.YthhalmjapiempaaN5
import Derived.Test.YthhalmjapiempaaZ1
import Derived.Test.YthhalmjapiempaaZ6
import Derived.Test.YthhalmjapiempaaZB
import Derived.Test.YthhalmjapiempaaZH
set_option linter.unusedVariables false
set_option linter.unusedSimpArgs false
namespace Go.Proofs.Ythhalmjapiempaa
open Go.RowKit

/-- Two may come up. -/
theorem wpAnyM_pair {P : Program} {ops : Array Oper} {Q : Exit → Act → World → Prop} {md : Region.Mode} {S : World → Prop} {p : Nat → Bool} {i k : Nat} {o o2 : Oper} {fuel : Nat} {listed : Array Bool} {a : Act} {w : World} (hr : Region.ready md ops listed = [i, k]) (ho : ops[i]? = some o) (ho2 : ops[k]? = some o2)
    (h : wpList P ops (fun e a' w' => e = .normal ∧ (p i = true → S w') ∧ wpAnyM P md ops Q S p fuel (listed.setIfInBounds i true) a' w') [o] a w)
    (h2 : wpList P ops (fun e a' w' => e = .normal ∧ (p k = true → S w') ∧ wpAnyM P md ops Q S p fuel (listed.setIfInBounds k true) a' w') [o2] a w) : wpAnyM P md ops Q S p (fuel + 1) listed a w := by
  have key : ∀ (j : Nat) (o : Oper), ops[j]? = some o → wpList P ops (fun e a' w' => e = .normal ∧ (p j = true → S w') ∧ wpAnyM P md ops Q S p fuel (listed.setIfInBounds j true) a' w') [o] a w →
      wpOp P ops Q j (fun a' w' => (p j = true → S w') ∧ wpAnyM P md ops Q S p fuel (listed.setIfInBounds j true) a' w') a w := by
    intro j o ho h
    unfold wpOp
    simp only [ho]
    rw [wpList] at h
    split at h
    · rename_i hw
      rw [if_pos hw]
      rcases h with h | ⟨_, _, _, h, _⟩
      · refine .inl ?_
        unfold Oper.wp at *
        generalize (execOp a.eval o).run P w = r at *
        cases r with
        | ok n w' =>
          cases n <;> simp only [Oper.upon] at h ⊢ <;>
            first
              | exact h.2
              | exact Calls.mono h (fun e w'' he => by
                  cases e <;> first | exact he.2 | exact absurd he.1 (by intro h; cases h) | (obtain ⟨_, _, he, _⟩ := he; cases he))
              | exact Rows.mono h (fun u w'' he => he.2)
        | halt x w' => cases x <;> simp only [Oper.upon] at h ⊢ <;> first | exact h | exact absurd h.1 (by intro h; cases h)
      · cases h
    · rename_i hw
      rw [if_neg hw]
      exact h.2
  refine ⟨fun q => (by rw [hr] at q; cases q), fun j hj => ?_⟩
  rw [hr] at hj
  rcases List.mem_cons.1 hj with rfl | hj
  · exact key _ o ho h
  · obtain rfl : j = k := by simpa using hj
    exact key _ o2 ho2 h2
def encM (m : MV) : List UInt8 := encP m.ge m.ph m.tg m.tx m.rt m.pg m.li m.cu
def commitL (l : List (Int × List UInt8)) (m : MV) : List (Int × List UInt8) := [(m.tx % 2, List.replicate 256 0)] ++ l ++ [(0, []), (m.tx % 2, encM m), (0, [])]
/-- What a commit does, and how it ends. -/
def commitS (d : DV) (l : List (Int × List UInt8)) (m : MV) : Int × DV := if prgB l m = true then allS d m.pg (commitL l m) else (1, d)
theorem oc_lit {W : World} (base : Nat) (hb : base ≤ W.heap.size) (hs : List (Int × Option Addr × Nat × Nat)) (n : Nat) (hn : hs.length = n) (hl : n ≤ 1000000000) (C : Array Value) (hC : C = (wv hs).toArray) : Oc (W.alloc (.cells C 92)) base 92 2 (some ⟨W.heap.size, 0, none⟩) n n (wv hs) := by
  subst hC
  refine ⟨?_, wv_one hs, hl⟩
  have := World.ownsRow_lit (base := base) (e := 92) (size := 2) W (wv hs).toArray n hb (by simp [maxLen]; omega) (by simp [wv_len, hn])
  simpa using this
/-- append of all elements of a slice that is read. -/
theorem wpl_two {P : Program} {ops : Array Oper} {rest : List Oper} {o : Oper} {a : Act} {Q : Exit → Act → World → Prop} {W : World} (base : Nat) (hgd : o.guard = none) (s x : Operand) (t T : TypeId) (z : Value) (bytes : Nat)
    (ho : o.op = .call { callee := .builtin .append, args := #[s, x], argTypes := #[t, t] })
    (ht : P.underlying t = some (.slice T)) (hinfo : (P.info? T).map (fun i => (i.zero, i.size, i.bytes)) = some (some z, 2, bytes)) (hzs : z.cells.size = 2) (hb0 : 0 < bytes) (hb1 : bytes ≤ 1000)
    (A : Option Addr) (n c : Nat) (B : Option Addr) (m e : Nat) (hs ks : List (Int × Option Addr × Nat × Nat)) (hsv : a.eval s = .slice A n c) (hx : a.eval x = .slice B m e)
    (HO : Oc W base T 2 A n c (wv hs)) (HY : Rc W 2 B m e (wv ks)) (hbase : base ≤ W.heap.size) (hnm : n + m ≤ 1000000000) {w0 : World} (HB : Below base w0 W)
    (h : ∀ A2 c2 w1, Aside0 (Oc w1 base T 2 A2 (n + m) c2 (wv (hs ++ ks))) → Aside0 (Below base w0 w1) → Aside0 (Grw A W w1) → wpList P ops Q rest (a.put o.dst (.slice A2 (n + m) c2)) w1) :
    wpList P ops Q (o :: rest) a W := by
  refine wpl_append (w0 := w0) base hgd s x t T z 2 bytes ho ht hinfo hzs (by omega) hb0 (.slice A n c) n (wv hs) B m e (wv ks) hsv hx HO.row HY.len HY.cells (fun u hu => HY.one u hu) HB hbase ?_ ?_
  · have := Nat.mul_le_mul hnm hb1
    omega
  · intro v1 w1 hown hB hg hat
    obtain ⟨A2, c2, rfl⟩ := own_form hown
    refine h A2 c2 w1 ⟨⟨by rw [wv_append]; exact hown, wv_one _, hnm⟩⟩ ⟨hB⟩ ⟨⟨hg.os, hg.tape, hg.output, hg.size, fun j hj hne => hg.block j hj ?_⟩⟩
    · rcases HO.addr with rfl | ⟨q, rfl, _⟩
      · intro e
        cases e
      · intro e
        simp only [Value.ownBlock, Option.some.injEq] at e
        exact hne (by rw [e])
theorem Oc.free {w0 : World} {R : List (Nat × Obj)} {W : World} {base k n c i : Nat} {T : TypeId} {A : Option Addr} {xs : List Value} {o : Obj} (h : Oc W base T k A n c xs) (hA : ∀ j, A = some ⟨j, 0, none⟩ → j = i) : Free w0 ((i, o) :: R) A n := fun h0 a e => by
  obtain ⟨g, e2, _⟩ := h.head h0
  rw [e2] at e
  injection e with e
  subst e
  have := hA g e2
  subst this
  exact .inr ⟨o, List.mem_cons_self⟩
theorem prW_mem (pg : Int) : ∀ (l : List (Int × List UInt8)) (seen : List Int), prW pg seen l = true → ∀ q ∈ l, formB pg q = true
  | [], _, _, _, h => by cases h
  | p :: r, seen, h, q, hq => by
    unfold prW at h
    simp only [Bool.and_eq_true] at h
    rcases List.mem_cons.1 hq with rfl | hq
    · exact h.1.1
    · exact prW_mem pg r _ h.2 q hq
theorem prgB_mem {l : List (Int × List UInt8)} {m : MV} (h : prgB l m = true) : ∀ q ∈ l, 2 ≤ q.1 ∧ q.1 ≤ m.pg ∧ q.2.length % 256 = 0 ∧ 0 < q.2.length := fun q hq => by
  unfold prgB at h
  rw [Bool.and_eq_true] at h
  have := of_decide_eq_true (prW_mem _ _ _ h.1 q hq)
  omega
set_option maxHeartbeats 16000000 in
set_option maxRecDepth 100000 in
theorem commit_h {w0 : World} {g gp : Nat} {R : List (Nat × Obj)} {d : DV} {W : World} (h : DH w0 g R d W) (hp : (gp, pgo g) ∈ R) (A : Option Addr) (n c : Nat) (hs : List (Int × Option Addr × Nat × Nat)) (l : List (Int × List UInt8)) (m : MV) (A' : Option Addr) (c' : Nat) (rl : Nat) (op : Int)
    (hr : Rc W 2 A n c (wv hs)) (hh : Hs w0 R W hs l) (hl : hs.length = n) (hm : Bs W A' m.cu.length c' m.cu) (hab : AB d rl op) (hrl : rl + totB l ≤ 800000) (hn : n ≤ 100000) (hop : op + n ≤ 800000) (hpg : m.pg ≤ 1000000) :
    Calls Try.prog 14 #[.pointer (some ⟨gp, 0, none⟩), .slice A n c, .agg (m.agg A' c')] W fun e w' => e = .returned (.int .i64 (commitS d l m).1) ∧ DH w0 g R (commitS d l m).2 w' := by
  obtain ⟨ge, ph, tg, tx, rt, pg, li, cu⟩ := m
  obtain ⟨bx, hbx⟩ : ∃ b : Obj, Obj.cells #[.int .i64 ge, .int .i64 ph, .int .i64 tg, .int .i64 tx, .int .i64 rt, .int .i64 pg, .int .i64 li, .slice A' cu.length c'] 36 = b := ⟨_, rfl⟩
  have hbel0 : Below W.heap.size W (W.alloc bx) := (Below.refl _ W).alloc (Nat.le_refl _) bx
  have H0 := Aside0.mk (And.intro (h.lit bx) (And.intro (hr.below hbel0) (And.intro ((hh.up (R1 := (W.heap.size, bx) :: R) (fun p hp => List.mem_cons_of_mem _ hp)).below hbel0) (hm.below hbel0))))
  have HX := Aside0.mk (And.intro hp (And.intro hl (And.intro hab (And.intro hrl hop))))
  have hlim := hr.lim
  have hcl := hm.lim
  clear h hp hr hh hl hm hab hrl hop hbel0
  show Calls Try.prog 14 #[.pointer (some ⟨gp, 0, none⟩), .slice A n c, .agg #[.int .i64 ge, .int .i64 ph, .int .i64 tg, .int .i64 tx, .int .i64 rt, .int .i64 pg, .int .i64 li, .slice A' cu.length c']] W _
  go_enter Try.func14, Try.ntmps14
  go_upto_region 1 with fail
  obtain ⟨W0, hW0⟩ : ∃ X, W.alloc bx = X := ⟨_, rfl⟩
  obtain ⟨N0, hN0⟩ : ∃ X, W.heap.size = X := ⟨_, rfl⟩
  rw [hW0, hN0] at H0
  rw [hW0, hN0]
  have hr0 := H0.out.1.row (i := N0) (o := bx) List.mem_cons_self
  rw [← hbx] at hr0
  obtain ⟨y0, y1, y2, y3, y4, y5, y6, y7⟩ := row8_cells hr0
  have HBX := Aside0.mk hbx
  clear hW0 hN0 hr0 hbx
  cases hR : prgB l ⟨ge, ph, tg, tx, rt, pg, li, cu⟩ with
  | false =>
    have HC := Aside0.mk (show commitS d l ⟨ge, ph, tg, tx, rt, pg, li, cu⟩ = (1, d) from if_neg (by rw [hR]; decide))
    go_wp2_with (go_at_call 26; refine (pright_any A n c hs l ⟨ge, ph, tg, tx, rt, pg, li, cu⟩ A' c' W0 H0.out.2.1 HX.out.2.1 H0.out.2.2.1.hl H0.out.2.2.2 hpg).mono ?_; rintro e w1 ⟨rfl, hB⟩; rw [hR]; (have H1 := Aside0.mk (H0.out.1.step hB)); clear hB)
    go_ret
    rw [HC.out]
    exact ⟨rfl, H1.out.drop (fun p hp => List.mem_cons_of_mem _ hp)⟩
  | true =>
    have hmr : mrightB ge ph tg tx rt pg li cu.length = true := by
      unfold prgB at hR
      rw [Bool.and_eq_true] at hR
      exact hR.2
    have BD := Aside0.mk (right_bounds hmr)
    have HMR := Aside0.mk hmr
    obtain ⟨at_, hat⟩ : ∃ x, tx % 2 = x := ⟨_, rfl⟩
    have hatb : 0 ≤ at_ ∧ at_ ≤ 1 := by omega
    obtain ⟨en, hen⟩ : ∃ x, encP ge ph tg tx rt pg li cu = x := ⟨_, rfl⟩
    have HC := Aside0.mk (show commitS d l ⟨ge, ph, tg, tx, rt, pg, li, cu⟩ = allS d pg ([(at_, List.replicate 256 0)] ++ l ++ [(0, []), (at_, en), (0, [])]) by rw [← hat, ← hen]; exact if_pos hR)
    have HEN := Aside0.mk hen
    clear hmr
    have HPM := Aside0.mk (prgB_mem hR)
    go_upto_region 3 with (go_at_call 26; refine (pright_any A n c hs l ⟨ge, ph, tg, tx, rt, pg, li, cu⟩ A' c' W0 H0.out.2.1 HX.out.2.1 H0.out.2.2.1.hl H0.out.2.2.2 hpg).mono ?_; rintro e w1 ⟨rfl, hB⟩; rw [hR]; (have H1 := Aside0.mk (And.intro (H0.out.1.step hB) (And.intro (H0.out.2.1.below hB) (And.intro (H0.out.2.2.1.below hB) (H0.out.2.2.2.below hB))))); (have hr0 := H1.out.1.row (i := N0) (o := bx) List.mem_cons_self); rw [← HBX.out] at hr0; clear y0 y1 y2 y3 y4 y5 y6 y7; (obtain ⟨y0, y1, y2, y3, y4, y5, y6, y7⟩ := row8_cells hr0); clear hB hr0)
    clear hen hR
    have HLE := Aside0.mk (show en.length = 256 by rw [← HEN.out, enc_eq HMR.out]; exact (encR_read HMR.out).1)
    go_upto_region 4 with (go_at_call 43; refine (mencode_any ge ph tg tx rt pg li A' cu.length c' cu w1 H1.out.2.2.2).mono ?_; rintro e w2 ⟨hB, hc⟩; (have hc := hc.resolve_left (fun z => by have := HMR.out; rw [z.1] at this; cases this)); (obtain ⟨_, A7, c7, rfl, hO⟩ := hc); rw [HEN.out, HLE.out] at hO; rw [HEN.out, HLE.out]; (obtain ⟨R2, hD2, hI2, hs2⟩ := H1.out.1.own hB hO); (have H2 := Aside0.mk (And.intro hD2 (And.intro hI2 (And.intro hs2 (And.intro hO.bs (And.intro (H1.out.2.1.below hB) (H1.out.2.2.1.below hB))))))); (have hr0 := hD2.row (i := N0) (o := bx) (hs2 _ List.mem_cons_self)); rw [← HBX.out] at hr0; clear y0 y1 y2 y3 y4 y5 y6 y7; (obtain ⟨y0, y1, y2, y3, y4, y5, y6, y7⟩ := row8_cells hr0); clear hO hB hr0 hD2 hI2 hs2)
    have hmk : ∀ W : World, (Instr.makeSlice 22 (.int .i64 256) (.int .i64 256)).run Try.prog W = .ok (.slice (some ⟨W.heap.size, 0, none⟩) 256 256) (W.alloc (.cells (madeCells #[.int .u8 0] 256) 5)) := mk8 256 (by omega)
    go_upto_region 5 with (go_at_call 44; refine (slot_any tx w2).mono ?_; rintro e w3 ⟨rfl, rfl⟩; rw [hat])
    go_upto_region 6 with fail
    have HAL := Aside0.mk (show rl + totB ([(at_, List.replicate 256 0)] ++ l ++ [(0, []), (at_, en), (0, [])]) ≤ 900000 ∧ (∀ q ∈ [(at_, List.replicate 256 (0 : UInt8))] ++ l ++ [(0, []), (at_, en), (0, [])], -1000000 ≤ q.1 ∧ q.1 ≤ 1000000) by
      constructor
      · rw [totB_append, totB_append]
        have e1 : totB [(at_, List.replicate 256 0)] = 256 := by simp [totB]
        have e2 : totB [(0, []), (at_, en), (0, [])] = 256 := by simp [totB, HLE.out]
        have := HX.out.2.2.2.1
        omega
      · intro q hq
        rcases List.mem_append.1 hq with hq | hq
        · rcases List.mem_append.1 hq with hq | hq
          · obtain rfl := List.mem_singleton.1 hq
            exact ⟨by show -1000000 ≤ at_; omega, by show at_ ≤ 1000000; omega⟩
          · have := HPM.out q hq
            have h2 : q.1 ≤ pg := this.2.1
            omega
        · simp only [List.mem_cons, List.not_mem_nil, or_false] at hq
          rcases hq with rfl | rfl | rfl
          · exact ⟨by decide, by decide⟩
          · exact ⟨by show -1000000 ≤ at_; omega, by show at_ ≤ 1000000; omega⟩
          · exact ⟨by decide, by decide⟩)
    obtain ⟨N2, hN2⟩ : ∃ N, w2.heap.size = N := ⟨_, rfl⟩
    obtain ⟨oz, hoz⟩ : ∃ o, Obj.cells (madeCells #[Value.int .u8 0] 256) 5 = o := ⟨_, rfl⟩
    have hD3 := H2.out.1.lit oz
    have hB3 := (Below.refl _ w2).alloc (Nat.le_refl _) oz
    have hbz := (Ow.made w2 w2.heap.size N2 hN2 (Nat.le_refl _) 256 (by omega)).bs
    rw [hN2] at hD3
    rw [hoz] at hbz
    have h3 := And.intro hD3 (And.intro hbz (And.intro (H2.out.2.2.2.1.below hB3) (And.intro (H2.out.2.2.2.2.1.below hB3) (H2.out.2.2.2.2.2.below hB3))))
    rw [hN2, hoz]
    clear hD3 hbz hB3
    obtain ⟨W3, hW3⟩ : ∃ X, w2.alloc oz = X := ⟨_, rfl⟩
    have hs3 : W3.heap.size = N2 + 1 := by rw [← hW3, ← hN2]; simp
    rw [hW3] at h3 ⊢
    obtain ⟨NF, hNFe⟩ : ∃ N, N2 + 1 = N := ⟨_, rfl⟩
    have hNF : W3.heap.size = NF := hs3.trans hNFe
    have HZ : Hs w0 ((N2, oz) :: R2) W3 ([(at_, some ⟨N2, 0, none⟩, 256, 256)] ++ hs ++ [(0, none, 0, 0), (at_, A7, 256, c7), (0, none, 0, 0)]) ([(at_, List.replicate 256 0)] ++ l ++ [(0, []), (at_, en), (0, [])]) := by
      refine ((Hs.one h3.2.1 (fun _ a e => by injection e with e; rw [← e]; exact .inr ⟨_, List.mem_cons_self⟩) (by omega)).append (h3.2.2.2.2.up (fun p hp => List.mem_cons_of_mem _ (H2.out.2.2.1 p hp)))).append ?_
      have z : Hs w0 ((N2, oz) :: R2) W3 [(0, none, 0, 0)] [(0, [])] := Hs.one (Bs.nil _ _ _ (by omega)) (fun h => absurd h (by omega)) (by omega)
      refine z.append (Hs.append (Hs.one h3.2.2.1 (fun h0 a e => ?_) (by omega)) z)
      obtain ⟨i, o, e2, q⟩ := H2.out.2.1 h0
      rw [e2] at e
      injection e with e
      rw [← e]
      exact .inr ⟨o, List.mem_cons_of_mem _ q⟩
    have HSX := Aside0.mk (show ∀ w' : World, Below NF W3 w' → w'.cell? ⟨N0, 5, none⟩ = some (.int .i64 pg) by
      intro w' hB
      rw [← hNF] at hB
      have hr0 := (h3.1.step hB).row (i := N0) (o := bx) (List.mem_cons_of_mem _ (H2.out.2.2.1 _ List.mem_cons_self))
      rw [← HBX.out] at hr0
      exact (row8_cells hr0).2.2.2.2.2.1)
    have hF0 := oc_lit (W := W3) W3.heap.size (Nat.le_refl _) [(at_, some ⟨N2, 0, none⟩, 256, 256)] 1 rfl (by omega) #[.int .i64 at_, .slice (some ⟨N2, 0, none⟩) 256 256] rfl
    have hB4 := ((Below.refl _ W3).alloc (Nat.le_refl _) (.cells #[.int .i64 at_, .slice (some ⟨N2, 0, none⟩) 256 256] 92))
    rw [hNF] at hF0 hB4
    rw [hNFe]
    obtain ⟨W4, hW4⟩ : ∃ X, W3.alloc (.cells #[.int .i64 at_, .slice (some ⟨N2, 0, none⟩) 256 256] 92) = X := ⟨_, rfl⟩
    rw [hW4] at hF0 hB4 ⊢
    have hdr : Below W4.heap.size W4 W4.drew := below_drew (Below.refl _ _)
    have HW := Aside0.mk (And.intro (hF0.below hdr) (And.intro (below_then hB4 (by rw [← hNF]; exact hB4.size) hdr) (h3.2.2.2.1.below (by rw [hNF]; exact below_then hB4 (by rw [← hNF]; exact hB4.size) hdr))))
    have H3 := Aside0.mk (And.intro h3.1 (And.intro HZ hNF))
    have HSZ := Aside0.mk (show ∀ w' : World, Below NF W3 w' → NF ≤ w'.heap.size by intro w' hB; rw [← hNF]; exact hB.size)
    have HS0 := Aside0.mk (HSX.out _ HW.out.2.1)
    clear h3 HZ hF0 hB4 hdr hW4 hNF hs3 hNFe hW3 hN2 hoz hmk y0 y1 y2 y3 y4 y5 y6 y7
    obtain ⟨Wd, hWd⟩ : ∃ X, W4.drew = X := ⟨_, rfl⟩
    rw [hWd] at HW HS0
    have HFWd := Aside0.mk HW.out.1
    have HBWd := Aside0.mk HW.out.2.1
    have HCWd := Aside0.mk HW.out.2.2
    clear HW
    refine wp_region_M (fun j => decide (j < 14)) (fun w' => w'.cell? ⟨N0, 5, none⟩ = some (.int .i64 pg)) (by kernel_rfl) ?_
    rw [hWd]
    refine wpAnyM_take (i := 0) (v := ?_) (by simp only [List.getElem?_toArray, List.getElem?_cons_succ, List.getElem?_cons_zero]; rfl) (by kernel_rfl) (by kernel_rfl) (by kernel_rfl) (by kernel_rfl) (by exact fun _ _ _ h => h) (Or.inl ⟨by rfl, ?_⟩) HS0.out ?_
    rotate_left
    · (intro w' hSw; (try dsimp only at hSw); go_simp; try with_reducible rfl)
    try simp only [Act.put, List.setIfInBounds_toArray, List.set_cons_zero, List.set_cons_succ]
    refine wpAnyM_take (i := 1) (v := ?_) (by simp only [List.getElem?_toArray, List.getElem?_cons_succ, List.getElem?_cons_zero]; rfl) (by kernel_rfl) (by kernel_rfl) (by kernel_rfl) (by kernel_rfl) (by exact fun _ _ _ h => h) (Or.inl ⟨by rfl, ?_⟩) HS0.out ?_
    rotate_left
    · (intro w' hSw; (try dsimp only at hSw); go_simp; try with_reducible rfl)
    try simp only [Act.put, List.setIfInBounds_toArray, List.set_cons_zero, List.set_cons_succ]
    refine wpAnyM_take (i := 2) (v := ?_) (by simp only [List.getElem?_toArray, List.getElem?_cons_succ, List.getElem?_cons_zero]; rfl) (by kernel_rfl) (by kernel_rfl) (by kernel_rfl) (by kernel_rfl) (by exact fun _ _ _ h => h) (Or.inl ⟨by rfl, ?_⟩) HS0.out ?_
    rotate_left
    · (intro w' hSw; (try dsimp only at hSw); go_simp; try with_reducible rfl)
    try simp only [Act.put, List.setIfInBounds_toArray, List.set_cons_zero, List.set_cons_succ]
    refine wpAnyM_take (i := 3) (v := ?_) (by simp only [List.getElem?_toArray, List.getElem?_cons_succ, List.getElem?_cons_zero]; rfl) (by kernel_rfl) (by kernel_rfl) (by kernel_rfl) (by kernel_rfl) (by exact fun _ _ _ h => h) (Or.inl ⟨by rfl, ?_⟩) HS0.out ?_
    rotate_left
    · (intro w' hSw; (try dsimp only at hSw); go_simp; try with_reducible rfl)
    try simp only [Act.put, List.setIfInBounds_toArray, List.set_cons_zero, List.set_cons_succ]
    refine wpAnyM_take (i := 4) (v := ?_) (by simp only [List.getElem?_toArray, List.getElem?_cons_succ, List.getElem?_cons_zero]; rfl) (by kernel_rfl) (by kernel_rfl) (by kernel_rfl) (by kernel_rfl) (by exact fun _ _ _ h => h) (Or.inl ⟨by rfl, ?_⟩) HS0.out ?_
    rotate_left
    · (intro w' hSw; (try dsimp only at hSw); go_simp; try with_reducible rfl)
    try simp only [Act.put, List.setIfInBounds_toArray, List.set_cons_zero, List.set_cons_succ]
    refine wpAnyM_take (i := 7) (v := ?_) (by simp only [List.getElem?_toArray, List.getElem?_cons_succ, List.getElem?_cons_zero]; rfl) (by kernel_rfl) (by kernel_rfl) (by kernel_rfl) (by kernel_rfl) (by exact fun _ _ _ h => h) (Or.inl ⟨by rfl, ?_⟩) HS0.out ?_
    rotate_left
    · (intro w' hSw; (try dsimp only at hSw); go_simp; try with_reducible rfl)
    try simp only [Act.put, List.setIfInBounds_toArray, List.set_cons_zero, List.set_cons_succ]
    refine wpAnyM_take (i := 8) (v := ?_) (by simp only [List.getElem?_toArray, List.getElem?_cons_succ, List.getElem?_cons_zero]; rfl) (by kernel_rfl) (by kernel_rfl) (by kernel_rfl) (by kernel_rfl) (by exact fun _ _ _ h => h) (Or.inl ⟨by rfl, ?_⟩) HS0.out ?_
    rotate_left
    · (intro w' hSw; (try dsimp only at hSw); go_simp; try with_reducible rfl)
    try simp only [Act.put, List.setIfInBounds_toArray, List.set_cons_zero, List.set_cons_succ]
    refine wpAnyM_take (i := 9) (v := ?_) (by simp only [List.getElem?_toArray, List.getElem?_cons_succ, List.getElem?_cons_zero]; rfl) (by kernel_rfl) (by kernel_rfl) (by kernel_rfl) (by kernel_rfl) (by exact fun _ _ _ h => h) (Or.inl ⟨by rfl, ?_⟩) HS0.out ?_
    rotate_left
    · (intro w' hSw; (try dsimp only at hSw); go_simp; try with_reducible rfl)
    try simp only [Act.put, List.setIfInBounds_toArray, List.set_cons_zero, List.set_cons_succ]
    refine wpAnyM_take (i := 10) (v := ?_) (by simp only [List.getElem?_toArray, List.getElem?_cons_succ, List.getElem?_cons_zero]; rfl) (by kernel_rfl) (by kernel_rfl) (by kernel_rfl) (by kernel_rfl) (by exact fun _ _ _ h => h) (Or.inl ⟨by rfl, ?_⟩) HS0.out ?_
    rotate_left
    · (intro w' hSw; (try dsimp only at hSw); go_simp; try with_reducible rfl)
    try simp only [Act.put, List.setIfInBounds_toArray, List.set_cons_zero, List.set_cons_succ]
    refine wpAnyM_take (i := 11) (v := ?_) (by simp only [List.getElem?_toArray, List.getElem?_cons_succ, List.getElem?_cons_zero]; rfl) (by kernel_rfl) (by kernel_rfl) (by kernel_rfl) (by kernel_rfl) (by exact fun _ _ _ h => h) (Or.inl ⟨by rfl, ?_⟩) HS0.out ?_
    rotate_left
    · (intro w' hSw; (try dsimp only at hSw); go_simp; try with_reducible rfl)
    try simp only [Act.put, List.setIfInBounds_toArray, List.set_cons_zero, List.set_cons_succ]
    refine wpAnyM_pair (i := 5) (k := 12) (by kernel_rfl) (by simp only [List.getElem?_toArray, List.getElem?_cons_succ, List.getElem?_cons_zero]; rfl) (by simp only [List.getElem?_toArray, List.getElem?_cons_succ, List.getElem?_cons_zero]; rfl) ?_ ?_
    · skip
      go_wp2_with (go_at_call 46; refine (pops_any A n c hs Wd HCWd.out HX.out.2.1).mono ?_; rintro e w5 ⟨A8, c8, rfl, hO, hB⟩; (have HOw5 := Aside0.mk hO.rc); (have HFw5 := Aside0.mk (HFWd.out.below hB)); (have HBw5 := Aside0.mk (below_then HBWd.out (HSZ.out _ HBWd.out) hB)); clear hO hB)
      refine ⟨HSX.out _ HBw5.out, ?_⟩
      try simp only [Act.put, List.setIfInBounds_toArray, List.set_cons_zero, List.set_cons_succ]
      refine wpAnyM_pair (i := 6) (k := 12) (by kernel_rfl) (by simp only [List.getElem?_toArray, List.getElem?_cons_succ, List.getElem?_cons_zero]; rfl) (by simp only [List.getElem?_toArray, List.getElem?_cons_succ, List.getElem?_cons_zero]; rfl) ?_ ?_
      · skip
        refine wpl_two (w0 := W3) NF (by rfl) (.tmp 30) (.tmp 32) 93 92 zW 32 (by rfl) Try.underlying93 infoO rfl (by omega) (by omega) (some ⟨NF, 0, none⟩) 1 1 A8 n c8 [(at_, some ⟨N2, 0, none⟩, 256, 256)] hs (by rfl) (by rfl) HFw5.out HOw5.out (HSZ.out _ HBw5.out) (by omega) HBw5.out ?_
        intro Aw6 cw6 w6 hO hB hG
        have HFw6 := Aside0.mk hO.out
        have HBw6 := Aside0.mk hB.out
        clear hO hB hG
        refine wpl_nil ⟨rfl, fun _ => HSX.out _ HBw6.out, ?_⟩
        try simp only [Act.put, List.setIfInBounds_toArray, List.set_cons_zero, List.set_cons_succ]
        refine wpAnyM_one (i := 12) (by kernel_rfl) (by simp only [List.getElem?_toArray, List.getElem?_cons_succ, List.getElem?_cons_zero]; rfl) ?_
        have hbk := (Below.refl _ w6).alloc (Nat.le_refl _) (.cells #[.int .i64 0, .slice none 0 0, .int .i64 at_, .slice A7 256 c7, .int .i64 0, .slice none 0 0] 92)
        have hok := oc_lit (W := w6) w6.heap.size (Nat.le_refl _) [(0, none, 0, 0), (at_, A7, 256, c7), (0, none, 0, 0)] 3 rfl (by omega) #[.int .i64 0, .slice none 0 0, .int .i64 at_, .slice A7 256 c7, .int .i64 0, .slice none 0 0] rfl
        have HNK := Aside0.mk (show NF < w6.heap.size by (obtain ⟨q, e, _, h⟩ := HFw6.out.head (by omega)); exact Nat.lt_of_le_of_lt (HFw6.out.lo q e) h)
        have HFw7 := Aside0.mk (HFw6.out.below hbk)
        have HBw7 := Aside0.mk (below_then HBw6.out (HSZ.out _ HBw6.out) hbk)
        have HKw7 := Aside0.mk hok
        clear hbk hok
        go_wp2_with fail
        refine ⟨HSX.out _ HBw7.out, ?_⟩
        obtain ⟨w7, hw7⟩ : ∃ X, w6.alloc (.cells #[.int .i64 0, .slice none 0 0, .int .i64 at_, .slice A7 256 c7, .int .i64 0, .slice none 0 0] 92) = X := ⟨_, rfl⟩
        rw [hw7] at HFw7 HBw7 HKw7 ⊢
        clear hw7
        try simp only [Act.put, List.setIfInBounds_toArray, List.set_cons_zero, List.set_cons_succ]
        refine wpAnyM_one (i := 13) (by kernel_rfl) (by simp only [List.getElem?_toArray, List.getElem?_cons_succ, List.getElem?_cons_zero]; rfl) ?_
        refine wpl_two (w0 := W3) NF (by rfl) (.tmp 33) (.tmp 39) 93 92 zW 32 (by rfl) Try.underlying93 infoO rfl (by omega) (by omega) Aw6 (1 + n) cw6 (some ⟨w6.heap.size, 0, none⟩) 3 3 ([(at_, some ⟨N2, 0, none⟩, 256, 256)] ++ hs) [(0, none, 0, 0), (at_, A7, 256, c7), (0, none, 0, 0)] (by rfl) (by rfl) HFw7.out HKw7.out.rc (HSZ.out _ HBw7.out) (by omega) HBw7.out ?_
        intro Awz cwz wz hO hB hG
        have HFwz := Aside0.mk hO.out
        have HBwz := Aside0.mk hB.out
        clear hO hB hG
        refine wpl_nil ⟨rfl, fun _ => HSX.out _ HBwz.out, ?_⟩
        try simp only [Act.put, List.setIfInBounds_toArray, List.set_cons_zero, List.set_cons_succ]
        obtain ⟨q, rfl, hq1, hq2⟩ := HFwz.out.head (by omega)
        obtain ⟨o, ho⟩ := H3.out.1.holdx (by rw [H3.out.2.2]; exact HBwz.out) q (by rw [H3.out.2.2]; exact hq1) hq2
        have HG := Aside0.mk (And.intro ho (H3.out.2.1.below (by rw [H3.out.2.2]; exact HBwz.out)))
        clear ho hq1 hq2
        refine wpAnyM_one (i := 14) (by kernel_rfl) (by simp only [List.getElem?_toArray, List.getElem?_cons_succ, List.getElem?_cons_zero]; rfl) ?_
        go_wp2_with (go_at_call 45; refine (all_h HG.out.1 (List.mem_cons_of_mem _ (List.mem_cons_of_mem _ (H2.out.2.2.1 _ (List.mem_cons_of_mem _ HX.out.1)))) pg (some ⟨q, 0, none⟩) (1 + n + 3) cwz _ _ rl op HFwz.out.rc (fun _ a e => by injection e with e; rw [← e]; exact .inr ⟨_, List.mem_cons_self⟩) (HG.out.2.up (fun p hp => List.mem_cons_of_mem _ hp)) (by have := HX.out.2.1; simp; omega) HX.out.2.2.1 HAL.out.1 (by have := HX.out.2.2.2.2; omega) (by have := BD.out; omega) HAL.out.2).mono ?_; rintro e wy ⟨rfl, hH⟩; (have HY := Aside0.mk hH); clear hH)
        try simp only [Act.put, List.setIfInBounds_toArray, List.set_cons_zero, List.set_cons_succ]
        refine wpAnyM_take0 (i := 15) (v := ?_) (by simp only [List.getElem?_toArray, List.getElem?_cons_succ, List.getElem?_cons_zero]; rfl) (by kernel_rfl) (by kernel_rfl) (by kernel_rfl) (by rfl) (by exact fun _ _ _ h => h) (Or.inl ⟨by rfl, ?_⟩) ?_
        rotate_left
        · (intro w' _; go_simp; try with_reducible rfl)
        try simp only [Act.put, List.setIfInBounds_toArray, List.set_cons_zero, List.set_cons_succ]
        refine wpAnyM_done (by kernel_rfl) ?_ _
        go_wp2_with fail
        go_ret
        rw [HC.out]
        exact ⟨rfl, HY.out.drop (fun p hp => List.mem_cons_of_mem _ (List.mem_cons_of_mem _ (H2.out.2.2.1 _ (List.mem_cons_of_mem _ hp))))⟩
      · skip
        have hbk := (Below.refl _ w5).alloc (Nat.le_refl _) (.cells #[.int .i64 0, .slice none 0 0, .int .i64 at_, .slice A7 256 c7, .int .i64 0, .slice none 0 0] 92)
        have hok := oc_lit (W := w5) w5.heap.size (Nat.le_refl _) [(0, none, 0, 0), (at_, A7, 256, c7), (0, none, 0, 0)] 3 rfl (by omega) #[.int .i64 0, .slice none 0 0, .int .i64 at_, .slice A7 256 c7, .int .i64 0, .slice none 0 0] rfl
        have HNK := Aside0.mk (show NF < w5.heap.size by (obtain ⟨q, e, _, h⟩ := HFw5.out.head (by omega)); injection e with e; injection e with e; omega)
        have HFwk := Aside0.mk (HFw5.out.below hbk)
        have HBwk := Aside0.mk (below_then HBw5.out (HSZ.out _ HBw5.out) hbk)
        have HOwk := Aside0.mk (HOw5.out.below hbk)
        have HKwk := Aside0.mk hok
        clear hbk hok
        go_wp2_with fail
        refine ⟨HSX.out _ HBwk.out, ?_⟩
        obtain ⟨wk, hwk⟩ : ∃ X, w5.alloc (.cells #[.int .i64 0, .slice none 0 0, .int .i64 at_, .slice A7 256 c7, .int .i64 0, .slice none 0 0] 92) = X := ⟨_, rfl⟩
        rw [hwk] at HFwk HBwk HKwk HOwk ⊢
        clear hwk
        try simp only [Act.put, List.setIfInBounds_toArray, List.set_cons_zero, List.set_cons_succ]
        refine wpAnyM_one (i := 6) (by kernel_rfl) (by simp only [List.getElem?_toArray, List.getElem?_cons_succ, List.getElem?_cons_zero]; rfl) ?_
        refine wpl_two (w0 := W3) NF (by rfl) (.tmp 30) (.tmp 32) 93 92 zW 32 (by rfl) Try.underlying93 infoO rfl (by omega) (by omega) (some ⟨NF, 0, none⟩) 1 1 A8 n c8 [(at_, some ⟨N2, 0, none⟩, 256, 256)] hs (by rfl) (by rfl) HFwk.out HOwk.out (HSZ.out _ HBwk.out) (by omega) HBwk.out ?_
        intro Aw6 cw6 w6 hO hB hG
        have HFw6 := Aside0.mk hO.out
        have HBw6 := Aside0.mk hB.out
        have HKw6 := Aside0.mk (HKwk.out.grw hG.out (fun i j e1 e2 => by injection e1 with e1; injection e1 with e1; injection e2 with e2; injection e2 with e2; have := HNK.out; omega))
        clear hO hB hG
        refine wpl_nil ⟨rfl, fun _ => HSX.out _ HBw6.out, ?_⟩
        try simp only [Act.put, List.setIfInBounds_toArray, List.set_cons_zero, List.set_cons_succ]
        refine wpAnyM_one (i := 13) (by kernel_rfl) (by simp only [List.getElem?_toArray, List.getElem?_cons_succ, List.getElem?_cons_zero]; rfl) ?_
        refine wpl_two (w0 := W3) NF (by rfl) (.tmp 33) (.tmp 39) 93 92 zW 32 (by rfl) Try.underlying93 infoO rfl (by omega) (by omega) Aw6 (1 + n) cw6 (some ⟨w5.heap.size, 0, none⟩) 3 3 ([(at_, some ⟨N2, 0, none⟩, 256, 256)] ++ hs) [(0, none, 0, 0), (at_, A7, 256, c7), (0, none, 0, 0)] (by rfl) (by rfl) HFw6.out HKw6.out.rc (HSZ.out _ HBw6.out) (by omega) HBw6.out ?_
        intro Awz cwz wz hO hB hG
        have HFwz := Aside0.mk hO.out
        have HBwz := Aside0.mk hB.out
        clear hO hB hG
        refine wpl_nil ⟨rfl, fun _ => HSX.out _ HBwz.out, ?_⟩
        try simp only [Act.put, List.setIfInBounds_toArray, List.set_cons_zero, List.set_cons_succ]
        obtain ⟨q, rfl, hq1, hq2⟩ := HFwz.out.head (by omega)
        obtain ⟨o, ho⟩ := H3.out.1.holdx (by rw [H3.out.2.2]; exact HBwz.out) q (by rw [H3.out.2.2]; exact hq1) hq2
        have HG := Aside0.mk (And.intro ho (H3.out.2.1.below (by rw [H3.out.2.2]; exact HBwz.out)))
        clear ho hq1 hq2
        refine wpAnyM_one (i := 14) (by kernel_rfl) (by simp only [List.getElem?_toArray, List.getElem?_cons_succ, List.getElem?_cons_zero]; rfl) ?_
        go_wp2_with (go_at_call 45; refine (all_h HG.out.1 (List.mem_cons_of_mem _ (List.mem_cons_of_mem _ (H2.out.2.2.1 _ (List.mem_cons_of_mem _ HX.out.1)))) pg (some ⟨q, 0, none⟩) (1 + n + 3) cwz _ _ rl op HFwz.out.rc (fun _ a e => by injection e with e; rw [← e]; exact .inr ⟨_, List.mem_cons_self⟩) (HG.out.2.up (fun p hp => List.mem_cons_of_mem _ hp)) (by have := HX.out.2.1; simp; omega) HX.out.2.2.1 HAL.out.1 (by have := HX.out.2.2.2.2; omega) (by have := BD.out; omega) HAL.out.2).mono ?_; rintro e wy ⟨rfl, hH⟩; (have HY := Aside0.mk hH); clear hH)
        try simp only [Act.put, List.setIfInBounds_toArray, List.set_cons_zero, List.set_cons_succ]
        refine wpAnyM_take0 (i := 15) (v := ?_) (by simp only [List.getElem?_toArray, List.getElem?_cons_succ, List.getElem?_cons_zero]; rfl) (by kernel_rfl) (by kernel_rfl) (by kernel_rfl) (by rfl) (by exact fun _ _ _ h => h) (Or.inl ⟨by rfl, ?_⟩) ?_
        rotate_left
        · (intro w' _; go_simp; try with_reducible rfl)
        try simp only [Act.put, List.setIfInBounds_toArray, List.set_cons_zero, List.set_cons_succ]
        refine wpAnyM_done (by kernel_rfl) ?_ _
        go_wp2_with fail
        go_ret
        rw [HC.out]
        exact ⟨rfl, HY.out.drop (fun p hp => List.mem_cons_of_mem _ (List.mem_cons_of_mem _ (H2.out.2.2.1 _ (List.mem_cons_of_mem _ hp))))⟩
    · skip
      have hbk := (Below.refl _ Wd).alloc (Nat.le_refl _) (.cells #[.int .i64 0, .slice none 0 0, .int .i64 at_, .slice A7 256 c7, .int .i64 0, .slice none 0 0] 92)
      have hok := oc_lit (W := Wd) Wd.heap.size (Nat.le_refl _) [(0, none, 0, 0), (at_, A7, 256, c7), (0, none, 0, 0)] 3 rfl (by omega) #[.int .i64 0, .slice none 0 0, .int .i64 at_, .slice A7 256 c7, .int .i64 0, .slice none 0 0] rfl
      have HNK := Aside0.mk (show NF < Wd.heap.size by (obtain ⟨q, e, _, h⟩ := HFWd.out.head (by omega)); injection e with e; injection e with e; omega)
      have HFwk := Aside0.mk (HFWd.out.below hbk)
      have HBwk := Aside0.mk (below_then HBWd.out (HSZ.out _ HBWd.out) hbk)
      have HCwk := Aside0.mk (HCWd.out.below hbk)
      have HKwk := Aside0.mk hok
      clear hbk hok
      go_wp2_with fail
      refine ⟨HSX.out _ HBwk.out, ?_⟩
      obtain ⟨wk, hwk⟩ : ∃ X, Wd.alloc (.cells #[.int .i64 0, .slice none 0 0, .int .i64 at_, .slice A7 256 c7, .int .i64 0, .slice none 0 0] 92) = X := ⟨_, rfl⟩
      rw [hwk] at HFwk HBwk HKwk HCwk ⊢
      clear hwk
      try simp only [Act.put, List.setIfInBounds_toArray, List.set_cons_zero, List.set_cons_succ]
      refine wpAnyM_one (i := 5) (by kernel_rfl) (by simp only [List.getElem?_toArray, List.getElem?_cons_succ, List.getElem?_cons_zero]; rfl) ?_
      go_wp2_with (go_at_call 46; refine (pops_any A n c hs wk HCwk.out HX.out.2.1).mono ?_; rintro e w5 ⟨A8, c8, rfl, hO, hB⟩; (have HOw5 := Aside0.mk hO.rc); (have HFw5 := Aside0.mk (HFwk.out.below hB)); (have HBw5 := Aside0.mk (below_then HBwk.out (HSZ.out _ HBwk.out) hB)); (have HKw5 := Aside0.mk (HKwk.out.below hB)); clear hO hB)
      refine ⟨HSX.out _ HBw5.out, ?_⟩
      try simp only [Act.put, List.setIfInBounds_toArray, List.set_cons_zero, List.set_cons_succ]
      refine wpAnyM_one (i := 6) (by kernel_rfl) (by simp only [List.getElem?_toArray, List.getElem?_cons_succ, List.getElem?_cons_zero]; rfl) ?_
      refine wpl_two (w0 := W3) NF (by rfl) (.tmp 30) (.tmp 32) 93 92 zW 32 (by rfl) Try.underlying93 infoO rfl (by omega) (by omega) (some ⟨NF, 0, none⟩) 1 1 A8 n c8 [(at_, some ⟨N2, 0, none⟩, 256, 256)] hs (by rfl) (by rfl) HFw5.out HOw5.out (HSZ.out _ HBw5.out) (by omega) HBw5.out ?_
      intro Aw6 cw6 w6 hO hB hG
      have HFw6 := Aside0.mk hO.out
      have HBw6 := Aside0.mk hB.out
      have HKw6 := Aside0.mk (HKw5.out.grw hG.out (fun i j e1 e2 => by injection e1 with e1; injection e1 with e1; injection e2 with e2; injection e2 with e2; have := HNK.out; omega))
      clear hO hB hG
      refine wpl_nil ⟨rfl, fun _ => HSX.out _ HBw6.out, ?_⟩
      try simp only [Act.put, List.setIfInBounds_toArray, List.set_cons_zero, List.set_cons_succ]
      refine wpAnyM_one (i := 13) (by kernel_rfl) (by simp only [List.getElem?_toArray, List.getElem?_cons_succ, List.getElem?_cons_zero]; rfl) ?_
      refine wpl_two (w0 := W3) NF (by rfl) (.tmp 33) (.tmp 39) 93 92 zW 32 (by rfl) Try.underlying93 infoO rfl (by omega) (by omega) Aw6 (1 + n) cw6 (some ⟨Wd.heap.size, 0, none⟩) 3 3 ([(at_, some ⟨N2, 0, none⟩, 256, 256)] ++ hs) [(0, none, 0, 0), (at_, A7, 256, c7), (0, none, 0, 0)] (by rfl) (by rfl) HFw6.out HKw6.out.rc (HSZ.out _ HBw6.out) (by omega) HBw6.out ?_
      intro Awz cwz wz hO hB hG
      have HFwz := Aside0.mk hO.out
      have HBwz := Aside0.mk hB.out
      clear hO hB hG
      refine wpl_nil ⟨rfl, fun _ => HSX.out _ HBwz.out, ?_⟩
      try simp only [Act.put, List.setIfInBounds_toArray, List.set_cons_zero, List.set_cons_succ]
      obtain ⟨q, rfl, hq1, hq2⟩ := HFwz.out.head (by omega)
      obtain ⟨o, ho⟩ := H3.out.1.holdx (by rw [H3.out.2.2]; exact HBwz.out) q (by rw [H3.out.2.2]; exact hq1) hq2
      have HG := Aside0.mk (And.intro ho (H3.out.2.1.below (by rw [H3.out.2.2]; exact HBwz.out)))
      clear ho hq1 hq2
      refine wpAnyM_one (i := 14) (by kernel_rfl) (by simp only [List.getElem?_toArray, List.getElem?_cons_succ, List.getElem?_cons_zero]; rfl) ?_
      go_wp2_with (go_at_call 45; refine (all_h HG.out.1 (List.mem_cons_of_mem _ (List.mem_cons_of_mem _ (H2.out.2.2.1 _ (List.mem_cons_of_mem _ HX.out.1)))) pg (some ⟨q, 0, none⟩) (1 + n + 3) cwz _ _ rl op HFwz.out.rc (fun _ a e => by injection e with e; rw [← e]; exact .inr ⟨_, List.mem_cons_self⟩) (HG.out.2.up (fun p hp => List.mem_cons_of_mem _ hp)) (by have := HX.out.2.1; simp; omega) HX.out.2.2.1 HAL.out.1 (by have := HX.out.2.2.2.2; omega) (by have := BD.out; omega) HAL.out.2).mono ?_; rintro e wy ⟨rfl, hH⟩; (have HY := Aside0.mk hH); clear hH)
      try simp only [Act.put, List.setIfInBounds_toArray, List.set_cons_zero, List.set_cons_succ]
      refine wpAnyM_take0 (i := 15) (v := ?_) (by simp only [List.getElem?_toArray, List.getElem?_cons_succ, List.getElem?_cons_zero]; rfl) (by kernel_rfl) (by kernel_rfl) (by kernel_rfl) (by rfl) (by exact fun _ _ _ h => h) (Or.inl ⟨by rfl, ?_⟩) ?_
      rotate_left
      · (intro w' _; go_simp; try with_reducible rfl)
      try simp only [Act.put, List.setIfInBounds_toArray, List.set_cons_zero, List.set_cons_succ]
      refine wpAnyM_done (by kernel_rfl) ?_ _
      go_wp2_with fail
      go_ret
      rw [HC.out]
      exact ⟨rfl, HY.out.drop (fun p hp => List.mem_cons_of_mem _ (List.mem_cons_of_mem _ (H2.out.2.2.1 _ (List.mem_cons_of_mem _ hp))))⟩
end Go.Proofs.Ythhalmjapiempaa
