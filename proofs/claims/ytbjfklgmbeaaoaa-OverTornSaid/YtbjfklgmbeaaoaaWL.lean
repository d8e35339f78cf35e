/- over.Decode. -/
import Derived.Test.YtbjfklgmbeaaoaaWK
set_option linter.unusedVariables false
set_option linter.unusedSimpArgs false
namespace Go.Proofs.Ytbjfklgmbeaaoaa
open Go.RowKit

theorem wpOp_list {P : Program} {ops : Array Oper} {Q : Exit → Act → World → Prop} {R : Act → World → Prop} {i : Nat} {o : Oper} {a : Act} {w : World} (ho : ops[i]? = some o)
    (h : wpList P ops (fun e a' w' => e = .normal ∧ R a' w') [o] a w) : wpOp P ops Q i R a w := by
  unfold wpOp
  simp only [ho]
  rw [wpList] at h
  split at h
  · rename_i hw
    rw [if_pos hw]
    rcases h with h | ⟨_, _, _, h, _⟩
    · refine .inl ?_
      unfold Oper.wp at *
      generalize (execOp a.eval o).run P w = r at *
      cases r with
      | ok n w' =>
        cases n <;> simp only [Oper.upon] at h ⊢ <;>
          first
            | exact h.2
            | exact Calls.mono h (fun e w'' he => by
                cases e <;> first | exact he.2 | exact absurd he.1 (by intro h; cases h) | (obtain ⟨_, _, he, _⟩ := he; cases he))
            | exact Rows.mono h (fun u w'' he => he.2)
      | halt x w' => cases x <;> simp only [Oper.upon] at h ⊢ <;> first | exact h | exact absurd h.1 (by intro h; cases h)
    · cases h
  · rename_i hw
    rw [if_neg hw]
    exact h.2
theorem wpAnyM_two {P : Program} {md : Region.Mode} {ops : Array Oper} {Q : Exit → Act → World → Prop} {S : World → Prop} {p : Nat → Bool} {i j : Nat} {o o2 : Oper} {fuel : Nat} {listed : Array Bool} {a : Act} {w : World}
    (hr : Region.ready md ops listed = [i, j]) (ho : ops[i]? = some o) (ho2 : ops[j]? = some o2)
    (h : wpList P ops (fun e a' w' => e = .normal ∧ (p i = true → S w') ∧ wpAnyM P md ops Q S p fuel (listed.setIfInBounds i true) a' w') [o] a w)
    (h2 : wpList P ops (fun e a' w' => e = .normal ∧ (p j = true → S w') ∧ wpAnyM P md ops Q S p fuel (listed.setIfInBounds j true) a' w') [o2] a w) : wpAnyM P md ops Q S p (fuel + 1) listed a w := by
  refine ⟨fun q => (by rw [hr] at q; cases q), fun k hk => ?_⟩
  rw [hr] at hk
  rcases List.mem_cons.1 hk with rfl | hk
  · exact wpOp_list ho h
  · obtain rfl : k = j := by simpa using hk
    exact wpOp_list ho2 h2
theorem eqIf (F : Nat) (caps : Array Value) (W : World) (d : Nat) : (Op.equalIn (d + 1) 33 (.func (.func F) #[] caps) .nilFunc).run Try.prog W = .ok false W := by
  simp [Op.equalIn, run_underlying Try.underlying33]
theorem eqf (F : Nat) (caps : Array Value) (W : World) : (binOp .eql 33 (.func (.func F) #[] caps) .nilFunc).run Try.prog W = .ok (.bool false) W := by
  simp only [binOp]
  simp [Op.equal, Op.maxDepth, eqIf F caps W 9999]
theorem store_fn (F : Nat) (caps : Array Value) (W : World) (S : Nat) (v : Value) (h : W.cell? ⟨S, 0, none⟩ = some v) (hf : W.frozen? ⟨S, 0, none⟩ = false) : (store ⟨S, 0, none⟩ (.func (.func F) #[] caps)).run Try.prog W = .ok () (W.setCell ⟨S, 0, none⟩ (.func (.func F) #[] caps)) := by
  rw [run_store _ _ _ _ _ rfl, h]
  simp [hf]
/-- What Decode keeps. -/
structure DS (w : World) (t : Nat) (Box : Nat → World → Prop) (k : Nat) (W : World) : Prop where
  only : OnlyB t w W
  bx : Box k W
section
variable {w W W1 : World} {t k : Nat} {Box : Nat → World → Prop}
theorem DS.below (h : DS w t Box k W) (ht : t < w.heap.size) (hbx : ∀ (k : Nat) (W W1 : World), W1.heap[t]? = W.heap[t]? → Box k W → Box k W1) (hB : Below W.heap.size W W1) : DS w t Box k W1 :=
  ⟨h.only.trans (OnlyB.of_below hB), hbx _ _ _ (hB.block t (Nat.lt_of_lt_of_le ht h.only.size)) h.bx⟩
theorem DS.put4 {M S : Nat} {o : Obj} {x y z u : Value} {T : TypeId} (h : DS w t Box k W) (ht : t < w.heap.size) (hbx : ∀ (k : Nat) (W W1 : World), W1.heap[t]? = W.heap[t]? → Box k W → Box k W1) (hm : W.heap[M]? = some o) (hs : W.heap[S]? = some (.cells #[x, y, z, u] T)) (hne : M ≠ S) (hlo : w.heap.size ≤ S) (a b c d : Value) :
    DS w t Box k ((((W.setCell ⟨S, 0, none⟩ a).setCell ⟨S, 1, none⟩ b).setCell ⟨S, 2, none⟩ c).setCell ⟨S, 3, none⟩ d) ∧ ((((W.setCell ⟨S, 0, none⟩ a).setCell ⟨S, 1, none⟩ b).setCell ⟨S, 2, none⟩ c).setCell ⟨S, 3, none⟩ d).heap[M]? = some o ∧
      ((((W.setCell ⟨S, 0, none⟩ a).setCell ⟨S, 1, none⟩ b).setCell ⟨S, 2, none⟩ c).setCell ⟨S, 3, none⟩ d).heap[S]? = some (.cells #[a, b, c, d] T) := by
  have ho := only_set4 (W := W) (g := S) a b c d
  have hlt := Nat.lt_of_lt_of_le ht h.only.size
  refine ⟨⟨?_, hbx _ _ _ (ho.block t hlt (by omega)) h.bx⟩, (ho.block M (Array.getElem?_eq_some_iff.1 hm).1 hne).trans hm, row4_set a b c d hs⟩
  exact ⟨ho.os.trans h.only.os, ho.tape.trans h.only.tape, ho.output.trans h.only.output, Nat.le_trans h.only.size ho.size, fun i hi h1 => (ho.block i (Nat.lt_of_lt_of_le hi h.only.size) (by omega)).trans (h.only.block i hi h1)⟩
end
theorem hV_form (r : RP) (id : Int) : ∃ ha hc hn, hV (r.b id 1) = #[.int .i64 ha, .int .i64 (dcG r id), .int .i64 hc, .int .i64 hn] := by
  unfold hV dcG
  by_cases h : hE (r.b id 1) = 0
  · rw [if_pos h, if_pos h]; exact ⟨_, _, _, rfl⟩
  · rw [if_neg h, if_neg h]; exact ⟨_, _, _, rfl⟩
def odE (r : RP) (id size : Int) : Int := if r.e id 1 = 0 then (if dcOk r id size then 0 else 80) else r.e id 1
def odG (r : RP) (id size : Int) : Int := if odE r id size = 0 then dcG r id else 0
def odV (r : RP) (id size : Int) : List UInt8 := if odE r id size = 0 then (dcS r (dcG r id) id (ovM (dcG r id) size)).1 else []
def odZ (r : RP) (id size : Int) : List Int := if odE r id size = 0 then (dcS r (dcG r id) id (ovM (dcG r id) size)).2 else []
def DecPost (r : RP) (id size : Int) (w : World) (t k : Nat) (Box : Nat → World → Prop) (e : Ending) (w' : World) : Prop := ∃ A1 c1 A2 c2 k', e = .returned (.tuple #[.int .i64 (odG r id size), .slice A1 (odV r id size).length c1, .slice A2 (odZ r id size).length c2, .int .i64 (odE r id size)]) ∧ Ow w' w.heap.size A1 (odV r id size).length c1 (odV r id size) ∧ Oc w' w.heap.size 3 1 A2 (odZ r id size).length c2 (iv (odZ r id size)) ∧ Box k' w' ∧ k' ≤ k + 20 ∧ OnlyB t w w'
theorem dec_post_no {r : RP} {id size : Int} {w w' : World} {t k k' : Nat} {Box : Nat → World → Prop} {E : Int} (h : odE r id size = E) (h0 : E ≠ 0) (hb : Box k' w') (hk : k' ≤ k + 20) (ho : OnlyB t w w') : DecPost r id size w t k Box (.returned (.tuple #[.int .i64 0, .slice none 0 0, .slice none 0 0, .int .i64 E])) w' := by
  have h1 : odG r id size = 0 := by unfold odG; rw [h, if_neg h0]
  have h2 : odV r id size = [] := by unfold odV; rw [h, if_neg h0]
  have h3 : odZ r id size = [] := by unfold odZ; rw [h, if_neg h0]
  unfold DecPost
  rw [h, h1, h2, h3]
  exact ⟨none, 0, none, 0, k', rfl, Ow.nil _ _, Oc.nil _ _ _ _, hb, hk, ho⟩
theorem dec_post_yes {r : RP} {id size gg : Int} {vv : List UInt8} {zs : List Int} {w w' : World} {t k k' c1 c2 : Nat} {A1 A2 : Option Addr} {Box : Nat → World → Prop} (h : odE r id size = 0) (hg : dcG r id = gg) (hs : dcS r gg id (ovM gg size) = (vv, zs)) (hO : Ow w' w.heap.size A1 vv.length c1 vv) (hI : Oc w' w.heap.size 3 1 A2 zs.length c2 (iv zs)) (hb : Box k' w') (hk : k' ≤ k + 20) (ho : OnlyB t w w') : DecPost r id size w t k Box (.returned (.tuple #[.int .i64 gg, .slice A1 vv.length c1, .slice A2 zs.length c2, .int .i64 0])) w' := by
  have h1 : odG r id size = gg := by unfold odG; rw [h, if_pos rfl, hg]
  have h2 : odV r id size = vv := by unfold odV; rw [h, if_pos rfl, hg, hs]
  have h3 : odZ r id size = zs := by unfold odZ; rw [h, if_pos rfl, hg, hs]
  unfold DecPost
  rw [h, h1, h2, h3]
  exact ⟨A1, c1, A2, c2, k', rfl, hO, hI, hb, hk, ho⟩
theorem own_ne {W : World} {base n c t : Nat} {A : Option Addr} {xs : List UInt8} (h : Ow W base A n c xs) (ht : t < base) {ad : Addr} (e : A = some ad) : ad.block ≠ t := by
  rcases h.addr8' with q | ⟨j, q, hj⟩
  · rw [q] at e; cases e
  · rw [q] at e
    injection e with e
    subst e
    show j ≠ t
    omega
theorem scB_bnd {r : RP} {g : Int} : ∀ (n : Nat) (id : Int) (o : List UInt8) (l : List Int), scB r g n id = some (o, l) → -9223372036854775808 ≤ id ∧ id ≤ 9223372036854775807 → ∀ z, z ∈ l → -9223372036854775808 ≤ z ∧ z ≤ 9223372036854775807
  | 0, id, o, l, h, hid, z, hz => by
    rw [scB] at h
    injection h with h
    injection h with _ h
    subst h
    cases hz
  | n + 1, id, o, l, h, hid, z, hz => by
    rw [scB] at h
    split at h
    · injection h with h
      injection h with _ h
      subst h
      cases hz
    · split at h
      · rename_i hok
        obtain ⟨⟨o2, l2⟩, h2, h3⟩ := Option.map_eq_some_iff.1 h
        injection h3 with _ h3
        subst h3
        rcases List.mem_cons.1 hz with rfl | hz
        · exact hid
        · exact scB_bnd n _ o2 l2 h2 (hNx_bnd hok.2.1) z hz
      · cases h
theorem dcS_bnd {w0 : World} {F : Nat} {caps : Array Value} {ar : Int → Int → Array Value} {t : Nat} {r : RP} {Box : Nat → World → Prop} (hR : Rdr w0 F caps ar t r Box) {g id mm : Int} (hid : -9223372036854775808 ≤ id ∧ id ≤ 9223372036854775807) (hm : mm ≤ 7) : ∀ z, z ∈ (dcS r g id mm).2 → -9223372036854775808 ≤ z ∧ z ≤ 9223372036854775807 := by
  intro z hz
  unfold dcS at hz
  split at hz
  · split at hz
    · cases hq : scB r g mm.toNat id with
      | none => rw [hq] at hz; cases hz
      | some p =>
        obtain ⟨o, l⟩ := p
        rw [hq] at hz
        exact scB_bnd _ _ _ _ hq hid z hz
    · unfold exS at hz
      split at hz
      · rename_i h
        have hb := hR.bound _ _ h.1
        obtain ⟨k, hk, rfl⟩ := List.mem_map.1 hz
        have := List.mem_range.1 hk
        omega
      · cases hz
  · cases hz
set_option maxHeartbeats 8000000 in
set_option maxRecDepth 100000 in
theorem odecode_any {w0 : World} {F : Nat} {caps : Array Value} {ar : Int → Int → Array Value} {t : Nat} {r : RP} {Box : Nat → World → Prop} (hR : Rdr w0 F caps ar t r Box) (k : Nat) (id size : Int) (w : World) (ho : OnlyB t w0 w) (hb : Box k w) (hid : -9223372036854775808 ≤ id ∧ id ≤ 9223372036854775807) (hsz : -9223372036854775808 ≤ size ∧ size ≤ 9223372036854775807) :
    Calls Try.prog 16 #[.func (.func F) #[] caps, .int .i64 id, .int .i64 size] w fun e w' => DecPost r id size w t k Box e w' := by
  have ht : t < w.heap.size := Nat.lt_of_lt_of_le hR.lt ho.size
  have HR := Aside0.mk hR
  have hbx := Aside0.mk hR.box
  have HO := Aside0.mk ho
  have HB := Aside0.mk hb
  clear hR ho hb
  obtain ⟨bb, hbb⟩ : ∃ x, r.b id 1 = x := ⟨_, rfl⟩
  obtain ⟨ee, hee⟩ : ∃ x, r.e id 1 = x := ⟨_, rfl⟩
  have HBE := Aside0.mk (And.intro hbb hee)
  have he := fun W => eqf F caps W
  go_enter Try.func16, Try.ntmps16
  go_upto_region 3 with fail
  clear he
  go_cut [10, 11] (fun v10 v11 wx => ∃ (A : Option Addr) (c : Nat), v10 = .slice A bb.length c ∧ v11 = .int .i64 ee ∧ Aside0 (DS w t Box (k + 1) wx ∧ Bs wx A bb.length c bb))
  case first =>
    have hcall := HR.out.call k id 1 w HO.out HB.out hid ⟨by omega, by omega⟩
    rw [hbb, hee] at hcall
    clear hbb hee
    rcases HR.out.kind with ⟨rfl, p, rfl, rfl⟩ | ⟨rfl, p, q, rfl, rfl⟩
    · dsimp only at hcall
      go_wp2_with (go_at_call 43; refine hcall.mono ?_; rintro e w3 ⟨A, c, rfl, hB3, hne3, hx3, ho3⟩; (have H3 := Aside0.mk (And.intro (DS.mk ho3 hx3) hB3)); clear hB3 ho3 hx3 hne3)
      go_meet
      exact ⟨A, c, rfl, rfl, H3⟩
    · dsimp only at hcall
      go_wp2_with (go_at_call 50; refine hcall.mono ?_; rintro e w3 ⟨A, c, rfl, hB3, hne3, hx3, ho3⟩; (have H3 := Aside0.mk (And.intro (DS.mk ho3 hx3) hB3)); clear hB3 ho3 hx3 hne3)
      go_meet
      exact ⟨A, c, rfl, rfl, H3⟩
  case rest =>
    obtain ⟨A, c, rfl, rfl, HC⟩ := hcut
    clear hbb hee
    by_cases t1 : ee = 0
    case neg =>
      have b1 : (ee != 0) = true := bne_iff_ne.2 t1
      have HE := Aside0.mk (show odE r id size = ee by unfold odE; rw [HBE.out.2, if_neg t1])
      have HT1 := Aside0.mk t1
      clear t1
      go_wp2_with fail
      refine bodyPost_ret (v := .tuple #[.int .i64 0, .slice none 0 0, .slice none 0 0, .int .i64 ee]) (by simp [results, Try.results16, asAddr]) rfl ?_
      exact dec_post_no HE.out HT1.out HC.out.1.bx (by omega) HC.out.1.only
    case pos =>
      have b1 : (ee != 0) = false := by rw [t1]; exact bne_self_eq_false _
      have HOE := Aside0.mk (show odE r id size = if dcOk r id size then 0 else 80 by unfold odE; rw [HBE.out.2, if_pos t1])
      clear t1
      obtain ⟨ha, hc, hn, hv⟩ := hV_form r id
      obtain ⟨gg, hgg⟩ : ∃ x, dcG r id = x := ⟨_, rfl⟩
      obtain ⟨mm, hmm⟩ : ∃ x, ovM gg size = x := ⟨_, rfl⟩
      have HGG := Aside0.mk hgg
      have HMM := Aside0.mk hmm
      have cH := headOf_any A bb.length c bb wc HC.out.2
      rw [HBE.out.1, hgg] at hv
      rw [hv] at cH
      clear hv hgg hmm
      go_upto_region 7 with (go_at_call 25; refine cH.mono ?_; rintro e w4 ⟨rfl, hB⟩; (have H4 := Aside0.mk (HC.out.1.below ht hbx.out hB)); clear hB)
      clear cH
      have hB5 := (Below.refl _ w4).alloc (Nat.le_refl _) (.cells #[.int .i64 ha, .int .i64 gg, .int .i64 hc, .int .i64 hn] 53)
      have h5 := H4.out.below ht hbx.out hB5
      have hr5 := heap_alloc_new w4 (.cells #[.int .i64 ha, .int .i64 gg, .int .i64 hc, .int .i64 hn] 53)
      obtain ⟨w5, hw5⟩ : ∃ X, w4.alloc (.cells #[.int .i64 ha, .int .i64 gg, .int .i64 hc, .int .i64 hn] 53) = X := ⟨_, rfl⟩
      have hM0 := H4.out.only.size
      obtain ⟨M, hM⟩ : ∃ X, w4.heap.size = X := ⟨_, rfl⟩
      rw [hw5] at h5 hr5
      rw [hM] at hr5 hM0
      rw [hw5, hM]
      have H5 := Aside0.mk (And.intro h5 hr5)
      clear h5 hr5 hB5 hw5 hM
      go_cut [14] (fun v14 wx => ∃ S : Nat, v14 = .pointer (some ⟨S, 0, none⟩) ∧ w.heap.size ≤ S ∧ Aside0 (DS w t Box (k + 1) wx ∧ wx.heap[M]? = some (.cells #[.int .i64 ha, .int .i64 gg, .int .i64 hc, .int .i64 hn] 53) ∧ wx.heap[S]? = some (.cells #[.func (.func F) #[] caps, .int .i64 gg, .int .i64 id, .int .i64 mm] 85)))
      case first =>
        have h6 := H5.out.1.below ht hbx.out (below_drew (Below.refl _ w5))
        have hm6 : w5.drew.heap[M]? = some (.cells #[.int .i64 ha, .int .i64 gg, .int .i64 hc, .int .i64 hn] 53) := H5.out.2
        obtain ⟨x0, hx0⟩ : ∃ X, w5.drew = X := ⟨_, rfl⟩
        rw [hx0] at h6 hm6
        have H6 := Aside0.mk (And.intro h6 hm6)
        clear h6 hm6
        refine wp_region_M (fun j => decide (j < 10)) (fun w' => w'.cell? ⟨M, 0, none⟩ = some (.int .i64 ha) ∧ w'.cell? ⟨M, 1, none⟩ = some (.int .i64 gg) ∧ w'.cell? ⟨M, 2, none⟩ = some (.int .i64 hc) ∧ w'.cell? ⟨M, 3, none⟩ = some (.int .i64 hn)) (by kernel_rfl) ?_
        rw [hx0]
        clear hx0
        refine wpAnyM_take (i := 0) (v := ?_) (by simp only [List.getElem?_toArray, List.getElem?_cons_succ, List.getElem?_cons_zero]; rfl) (by kernel_rfl) (by kernel_rfl) (by kernel_rfl) (by kernel_rfl) (by exact fun _ _ _ h => h) (Or.inl ⟨by rfl, ?_⟩) (item_cells2 H6.out.2) ?_
        rotate_left
        · (intro w' hSw; (try dsimp only at hSw); go_simp; try with_reducible rfl)
        try simp only [Act.put, List.setIfInBounds_toArray, List.set_cons_zero, List.set_cons_succ]
        refine wpAnyM_take (i := 1) (v := ?_) (by simp only [List.getElem?_toArray, List.getElem?_cons_succ, List.getElem?_cons_zero]; rfl) (by kernel_rfl) (by kernel_rfl) (by kernel_rfl) (by kernel_rfl) (by exact fun _ _ _ h => h) (Or.inl ⟨by rfl, ?_⟩) (item_cells2 H6.out.2) ?_
        rotate_left
        · (intro w' hSw; (try dsimp only at hSw); go_simp; try with_reducible rfl)
        try simp only [Act.put, List.setIfInBounds_toArray, List.set_cons_zero, List.set_cons_succ]
        refine wpAnyM_take (i := 2) (v := ?_) (by simp only [List.getElem?_toArray, List.getElem?_cons_succ, List.getElem?_cons_zero]; rfl) (by kernel_rfl) (by kernel_rfl) (by kernel_rfl) (by kernel_rfl) (by exact fun _ _ _ h => h) (Or.inl ⟨by rfl, ?_⟩) (item_cells2 H6.out.2) ?_
        rotate_left
        · (intro w' hSw; (try dsimp only at hSw); go_simp; try with_reducible rfl)
        try simp only [Act.put, List.setIfInBounds_toArray, List.set_cons_zero, List.set_cons_succ]
        refine wpAnyM_take (i := 3) (v := ?_) (by simp only [List.getElem?_toArray, List.getElem?_cons_succ, List.getElem?_cons_zero]; rfl) (by kernel_rfl) (by kernel_rfl) (by kernel_rfl) (by kernel_rfl) (by exact fun _ _ _ h => h) (Or.inl ⟨by rfl, ?_⟩) (item_cells2 H6.out.2) ?_
        rotate_left
        · (intro w' hSw; (try dsimp only at hSw); go_simp; try with_reducible rfl)
        try simp only [Act.put, List.setIfInBounds_toArray, List.set_cons_zero, List.set_cons_succ]
        refine wpAnyM_take (i := 4) (v := ?_) (by simp only [List.getElem?_toArray, List.getElem?_cons_succ, List.getElem?_cons_zero]; rfl) (by kernel_rfl) (by kernel_rfl) (by kernel_rfl) (by kernel_rfl) (by exact fun _ _ _ h => h) (Or.inl ⟨by rfl, ?_⟩) (item_cells2 H6.out.2) ?_
        rotate_left
        · (intro w' hSw; (try dsimp only at hSw); go_simp; try with_reducible rfl)
        try simp only [Act.put, List.setIfInBounds_toArray, List.set_cons_zero, List.set_cons_succ]
        refine wpAnyM_take (i := 5) (v := ?_) (by simp only [List.getElem?_toArray, List.getElem?_cons_succ, List.getElem?_cons_zero]; rfl) (by kernel_rfl) (by kernel_rfl) (by kernel_rfl) (by kernel_rfl) (by exact fun _ _ _ h => h) (Or.inl ⟨by rfl, ?_⟩) (item_cells2 H6.out.2) ?_
        rotate_left
        · (intro w' hSw; (try dsimp only at hSw); go_simp; try with_reducible rfl)
        try simp only [Act.put, List.setIfInBounds_toArray, List.set_cons_zero, List.set_cons_succ]
        refine wpAnyM_take (i := 6) (v := ?_) (by simp only [List.getElem?_toArray, List.getElem?_cons_succ, List.getElem?_cons_zero]; rfl) (by kernel_rfl) (by kernel_rfl) (by kernel_rfl) (by kernel_rfl) (by exact fun _ _ _ h => h) (Or.inl ⟨by rfl, ?_⟩) (item_cells2 H6.out.2) ?_
        rotate_left
        · (intro w' hSw; (try dsimp only at hSw); go_simp; try with_reducible rfl)
        try simp only [Act.put, List.setIfInBounds_toArray, List.set_cons_zero, List.set_cons_succ]
        refine wpAnyM_two (i := 7) (j := 9) (by kernel_rfl) (by simp only [List.getElem?_toArray, List.getElem?_cons_succ, List.getElem?_cons_zero]; rfl) (by simp only [List.getElem?_toArray, List.getElem?_cons_succ, List.getElem?_cons_zero]; rfl) ?g7 ?g9
        case g9 =>
          go_wp2_with fail
          have hB7 := (Below.refl _ x0).alloc (Nat.le_refl _) (.cells #[.nilFunc, .int .i64 0, .int .i64 0, .int .i64 0] 85)
          have h7 := H6.out.1.below ht hbx.out hB7
          have hm7 := (hB7.block _ (Array.getElem?_eq_some_iff.1 H6.out.2).1).trans H6.out.2
          have hs7 := heap_alloc_new x0 (.cells #[.nilFunc, .int .i64 0, .int .i64 0, .int .i64 0] 85)
          have hlt7 := (Array.getElem?_eq_some_iff.1 H6.out.2).1
          have hS0 := H6.out.1.only.size
          obtain ⟨x1, hx1⟩ : ∃ X, x0.alloc (.cells #[.nilFunc, .int .i64 0, .int .i64 0, .int .i64 0] 85) = X := ⟨_, rfl⟩
          obtain ⟨S, hS⟩ : ∃ X, x0.heap.size = X := ⟨_, rfl⟩
          rw [hx1] at h7 hm7 hs7
          rw [hS] at hs7 hlt7 hS0
          rw [hx1, hS]
          have H7 := Aside0.mk (And.intro h7 (And.intro hm7 (And.intro hs7 (And.intro hlt7 hS0))))
          clear h7 hm7 hs7 hlt7 hS0 hB7 hx1 hS
          refine ⟨item_cells2 H7.out.2.1, ?_⟩
          try simp only [Act.put, List.setIfInBounds_toArray, List.set_cons_zero, List.set_cons_succ]
          refine wpAnyM_one (i := 7) (by kernel_rfl) (by simp only [List.getElem?_toArray, List.getElem?_cons_succ, List.getElem?_cons_zero]; rfl) ?_
          go_wp2_with (go_at_call 11; refine (overMany_any gg size x1).mono ?_; rintro e x2 ⟨rfl, hB⟩; rw [HMM.out]; (have H8 := Aside0.mk (And.intro (H7.out.1.below ht hbx.out hB) (And.intro ((hB.block _ (Array.getElem?_eq_some_iff.1 H7.out.2.1).1).trans H7.out.2.1) ((hB.block _ (Array.getElem?_eq_some_iff.1 H7.out.2.2.1).1).trans H7.out.2.2.1)))); clear hB)
          refine ⟨item_cells2 H8.out.2.1, ?_⟩
          try simp only [Act.put, List.setIfInBounds_toArray, List.set_cons_zero, List.set_cons_succ]
          refine wpAnyM_take (i := 8) (v := ?_) (by simp only [List.getElem?_toArray, List.getElem?_cons_succ, List.getElem?_cons_zero]; rfl) (by kernel_rfl) (by kernel_rfl) (by kernel_rfl) (by kernel_rfl) (by exact fun _ _ _ h => h) (Or.inl ⟨by rfl, ?_⟩) (item_cells2 H8.out.2.1) ?_
          rotate_left
          · (intro w' hSw; (try dsimp only at hSw); go_simp; try with_reducible rfl)
          try simp only [Act.put, List.setIfInBounds_toArray, List.set_cons_zero, List.set_cons_succ]
          refine wpAnyM_one (i := 10) (by kernel_rfl) (by simp only [List.getElem?_toArray, List.getElem?_cons_succ, List.getElem?_cons_zero]; rfl) ?_
          obtain ⟨y0, y1, y2, y3⟩ := item_cells2 H8.out.2.2
          have yN := fun j => Go.Joins.unfrozen_of_block H8.out.2.2 j
          have hsf := store_fn F caps x2 S _ y0 (yN 0)
          go_wp2_with fail
          have H9 := Aside0.mk (DS.put4 H8.out.1 ht hbx.out H8.out.2.1 H8.out.2.2 (by have := H7.out.2.2.2.1; omega) H7.out.2.2.2.2 (.func (.func F) #[] caps) (.int .i64 gg) (.int .i64 id) (.int .i64 mm))
          try simp only [Act.put, List.setIfInBounds_toArray, List.set_cons_zero, List.set_cons_succ]
          refine wpAnyM_done (by kernel_rfl) ?_ _
          go_wp2_with fail
          go_meet
          exact ⟨S, rfl, H7.out.2.2.2.2, H9⟩
        case g7 =>
          go_wp2_with (go_at_call 11; refine (overMany_any gg size x0).mono ?_; rintro e x2 ⟨rfl, hB⟩; rw [HMM.out]; (have H8 := Aside0.mk (And.intro (H6.out.1.below ht hbx.out hB) ((hB.block _ (Array.getElem?_eq_some_iff.1 H6.out.2).1).trans H6.out.2))); clear hB)
          refine ⟨item_cells2 H8.out.2, ?_⟩
          try simp only [Act.put, List.setIfInBounds_toArray, List.set_cons_zero, List.set_cons_succ]
          refine wpAnyM_take (i := 8) (v := ?_) (by simp only [List.getElem?_toArray, List.getElem?_cons_succ, List.getElem?_cons_zero]; rfl) (by kernel_rfl) (by kernel_rfl) (by kernel_rfl) (by kernel_rfl) (by exact fun _ _ _ h => h) (Or.inl ⟨by rfl, ?_⟩) (item_cells2 H8.out.2) ?_
          rotate_left
          · (intro w' hSw; (try dsimp only at hSw); go_simp; try with_reducible rfl)
          try simp only [Act.put, List.setIfInBounds_toArray, List.set_cons_zero, List.set_cons_succ]
          refine wpAnyM_one (i := 9) (by kernel_rfl) (by simp only [List.getElem?_toArray, List.getElem?_cons_succ, List.getElem?_cons_zero]; rfl) ?_
          go_wp2_with fail
          have hB7 := (Below.refl _ x2).alloc (Nat.le_refl _) (.cells #[.nilFunc, .int .i64 0, .int .i64 0, .int .i64 0] 85)
          have h7 := H8.out.1.below ht hbx.out hB7
          have hm7 := (hB7.block _ (Array.getElem?_eq_some_iff.1 H8.out.2).1).trans H8.out.2
          have hs7 := heap_alloc_new x2 (.cells #[.nilFunc, .int .i64 0, .int .i64 0, .int .i64 0] 85)
          have hlt7 := (Array.getElem?_eq_some_iff.1 H8.out.2).1
          have hS0 := H8.out.1.only.size
          obtain ⟨x1, hx1⟩ : ∃ X, x2.alloc (.cells #[.nilFunc, .int .i64 0, .int .i64 0, .int .i64 0] 85) = X := ⟨_, rfl⟩
          obtain ⟨S, hS⟩ : ∃ X, x2.heap.size = X := ⟨_, rfl⟩
          rw [hx1] at h7 hm7 hs7
          rw [hS] at hs7 hlt7 hS0
          rw [hx1, hS]
          have H7 := Aside0.mk (And.intro h7 (And.intro hm7 (And.intro hs7 (And.intro hlt7 hS0))))
          clear h7 hm7 hs7 hlt7 hS0 hB7 hx1 hS
          refine ⟨item_cells2 H7.out.2.1, ?_⟩
          try simp only [Act.put, List.setIfInBounds_toArray, List.set_cons_zero, List.set_cons_succ]
          refine wpAnyM_one (i := 10) (by kernel_rfl) (by simp only [List.getElem?_toArray, List.getElem?_cons_succ, List.getElem?_cons_zero]; rfl) ?_
          obtain ⟨y0, y1, y2, y3⟩ := item_cells2 H7.out.2.2.1
          have yN := fun j => Go.Joins.unfrozen_of_block H7.out.2.2.1 j
          have hsf := store_fn F caps x1 S _ y0 (yN 0)
          go_wp2_with fail
          have H9 := Aside0.mk (DS.put4 H7.out.1 ht hbx.out H7.out.2.1 H7.out.2.2.1 (by have := H7.out.2.2.2.1; omega) H7.out.2.2.2.2 (.func (.func F) #[] caps) (.int .i64 gg) (.int .i64 id) (.int .i64 mm))
          try simp only [Act.put, List.setIfInBounds_toArray, List.set_cons_zero, List.set_cons_succ]
          refine wpAnyM_done (by kernel_rfl) ?_ _
          go_wp2_with fail
          go_meet
          exact ⟨S, rfl, H7.out.2.2.2.2, H9⟩
      case rest =>
        obtain ⟨S, rfl, hSlo, HS⟩ := hcut
        obtain ⟨vv, zs, hvz⟩ : ∃ vv zs, dcS r gg id mm = (vv, zs) := ⟨_, _, rfl⟩
        have HVZ := Aside0.mk hvz
        have HDC := Aside0.mk (show dcOk r id size ↔ (ovE gg vv zs = 0 ∧ (vv.length : Int) = size ∧ smB r zs (ovL gg vv zs) = true) by unfold dcOk; rw [HGG.out, HMM.out, hvz])
        have hzb := dcS_bnd HR.out (g := gg) (mm := mm) hid (by rw [← HMM.out]; exact (ovM_hi gg size).1)
        rw [hvz] at hzb
        have HZB := Aside0.mk hzb
        clear hvz hzb
        obtain ⟨sg, hsg⟩ : ∃ x, sgB gg = x := ⟨_, rfl⟩
        have HSG := Aside0.mk hsg
        clear hsg
        obtain ⟨z0, z1, z2, z3⟩ := item_cells2 HS.out.2.2
        obtain ⟨y0, y1, y2, y3⟩ := item_cells2 HS.out.2.1
        go_upto_if 48 with (go_at_call 13; refine (single_any gg _).mono ?_; rintro e w6 ⟨rfl, rfl⟩; rw [HSG.out])
        go_cut [15] (fun v15 wx => ∃ fn : Nat, v15 = .func (.func fn) #[(.agg #[.func (.func F) #[] caps, .int .i64 gg, .int .i64 id, .int .i64 mm])] #[] ∧ Aside0 (fn = cond sg 47 46) ∧ wx = wc)
        case first =>
          cases sg with
          | true =>
            go_wp2_with fail
            go_meet
            exact ⟨_, rfl, ⟨rfl⟩, rfl⟩
          | false =>
            go_wp2_with fail
            go_meet
            exact ⟨_, rfl, ⟨rfl⟩, rfl⟩
        case rest =>
          obtain ⟨fn, rfl, HFN, rfl⟩ := hcut
          go_upto_if 53 with fail
          clear z0 z1 z2 z3 y0 y1 y2 y3
          go_cut [16, 17] (fun v16 v17 wx => ∃ (A1 : Option Addr) (c1 : Nat) (A2 : Option Addr) (c2 : Nat) (kk : Nat), v16 = .slice A1 vv.length c1 ∧ v17 = .slice A2 zs.length c2 ∧ Aside0 (DS w t Box kk wx ∧ kk ≤ k + 8 ∧ wx.heap[M]? = some (.cells #[.int .i64 ha, .int .i64 gg, .int .i64 hc, .int .i64 hn] 53) ∧ wx.heap[S]? = some (.cells #[.func (.func F) #[] caps, .int .i64 gg, .int .i64 id, .int .i64 mm] 85) ∧ Bs wx A1 vv.length c1 vv ∧ (∀ ad, A1 = some ad → 0 < vv.length → ad.block ≠ t) ∧ Oc wx w.heap.size 3 1 A2 zs.length c2 (iv zs)))
          case first =>
            by_cases q : 0 < mm
            · have dq : decide (0 < mm) = true := decide_eq_true q
              obtain ⟨many, rfl⟩ := Int.eq_ofNat_of_zero_le (show 0 ≤ mm by omega)
              have hin := ovM_in (g := gg) (m := size) (by rw [HMM.out]; exact q)
              have hhi := ovM_hi gg size
              rw [HMM.out] at hhi
              have hm7 : many ≤ 7 := by omega
              have hMt : M ≠ t := by have := HS.out.1.only.size; omega
              have hSt : S ≠ t := by omega
              cases sg with
              | true =>
                obtain rfl := HFN.out
                have HVZ2 := Aside0.mk (show (scB r gg many id).getD ([], []) = (vv, zs) by
                  rw [← HVZ.out]
                  unfold dcS
                  rw [if_pos q, if_pos HSG.out]
                  rfl)
                have HIN := Aside0.mk hin
                clear hin hhi
                go_wp2_with (go_at_call 47; refine (schain_any HR.out (k + 1) gg id many _ ⟨HIN.out.1, HIN.out.2.1⟩ (HO.out.trans HS.out.1.only) HS.out.1.bx hid (by omega)).mono ?_; rintro e w7 ⟨A1, c1, A2, c2, kk, v1, z1, hvz2, rfl, hO7, hI7, hx7, hk7, ho7⟩; (have hvz3 := hvz2.symm.trans HVZ2.out); (injection hvz3 with hv1 hz1); subst hv1; subst hz1; (have H7 := Aside0.mk (And.intro (DS.mk (HS.out.1.only.trans ho7) hx7) (And.intro (show kk ≤ k + 8 by omega) (And.intro ((ho7.block _ (Array.getElem?_eq_some_iff.1 HS.out.2.1).1 hMt).trans HS.out.2.1) (And.intro ((ho7.block _ (Array.getElem?_eq_some_iff.1 HS.out.2.2).1 hSt).trans HS.out.2.2) (And.intro hO7.bs (And.intro (show ∀ ad : Addr, A1 = some ad → 0 < v1.length → ad.block ≠ t from fun ad e0 _ => own_ne hO7 (Nat.lt_of_lt_of_le ht HS.out.1.only.size) e0) (hI7.mono HS.out.1.only.size)))))))); clear hvz2 hO7 hI7 hx7 hk7 ho7)
                go_meet
                exact ⟨A1, c1, A2, c2, kk, rfl, rfl, H7⟩
              | false =>
                obtain rfl := HFN.out
                obtain rfl : gg = 3 := by
                  have h := HSG.out
                  unfold sgB at h
                  have := of_decide_eq_false h
                  omega
                have HVZ2 := Aside0.mk (show (exS r id many).getD ([], []) = (vv, zs) by
                  rw [← HVZ.out]
                  unfold dcS
                  rw [if_pos q, if_neg (by rw [HSG.out]; decide)]
                  rfl)
                clear hin hhi
                go_wp2_with (go_at_call 46; refine (sext_any HR.out (k + 1) id many _ (HO.out.trans HS.out.1.only) HS.out.1.bx hid (by omega)).mono ?_; rintro e w7 ⟨A1, c1, A2, c2, kk, v1, z1, hvz2, rfl, hO7, hne7, hI7, hx7, hk7, ho7⟩; (have hvz3 := hvz2.symm.trans HVZ2.out); (injection hvz3 with hv1 hz1); subst hv1; subst hz1; (have H7 := Aside0.mk (And.intro (DS.mk (HS.out.1.only.trans ho7) hx7) (And.intro (show kk ≤ k + 8 by omega) (And.intro ((ho7.block _ (Array.getElem?_eq_some_iff.1 HS.out.2.1).1 hMt).trans HS.out.2.1) (And.intro ((ho7.block _ (Array.getElem?_eq_some_iff.1 HS.out.2.2).1 hSt).trans HS.out.2.2) (And.intro hO7 (And.intro hne7 (hI7.mono HS.out.1.only.size)))))))); clear hvz2 hO7 hI7 hx7 hk7 ho7 hne7)
                go_meet
                exact ⟨A1, c1, A2, c2, kk, rfl, rfl, H7⟩
            · have dq : decide (0 < mm) = false := decide_eq_false q
              have hvz3 := HVZ.out
              unfold dcS at hvz3
              rw [if_neg q] at hvz3
              injection hvz3 with hv1 hz1
              subst hv1
              subst hz1
              go_wp2_with fail
              go_meet
              exact ⟨none, 0, none, 0, k + 1, rfl, rfl, ⟨HS.out.1, by omega, HS.out.2.1, HS.out.2.2, Bs.nil _ _ _ (by omega), (fun _ e _ => by cases e), Oc.nil _ _ _ _⟩⟩
          case rest =>
            obtain ⟨A1, c1, A2, c2, kk, rfl, rfl, HV⟩ := hcut
            have cE := oencode_any gg A1 vv.length c1 vv A2 zs.length c2 zs wc HV.out.2.2.2.2.1 HV.out.2.2.2.2.2.2.rc HZB.out
            obtain ⟨y0, y1, y2, y3⟩ := item_cells2 HV.out.2.2.1
            by_cases q1 : ovE gg vv zs = 0
            case neg =>
              have b1' : (ovE gg vv zs != 0) = true := bne_iff_ne.2 q1
              have HE := Aside0.mk (show odE r id size = 80 by rw [HOE.out, if_neg (fun h => q1 (HDC.out.1 h).1)])
              clear q1
              go_wp2_with (go_at_call 21; refine cE.mono ?_; rintro e w8 ⟨A5, c5, hs5, rfl, hO5, hP5, hB5⟩; (have H8 := Aside0.mk (And.intro (HV.out.1.below ht hbx.out hB5) (And.intro ((hB5.block _ (Array.getElem?_eq_some_iff.1 HV.out.2.2.1).1).trans HV.out.2.2.1) (And.intro ((hB5.block _ (Array.getElem?_eq_some_iff.1 HV.out.2.2.2.1).1).trans HV.out.2.2.2.1) (And.intro (HV.out.2.2.2.2.1.below hB5) (And.intro (HV.out.2.2.2.2.2.2.below hB5) (And.intro (hO5.mono HV.out.1.only.size) (hP5.mono HV.out.1.only.size)))))))); clear hO5 hP5 hB5 cE; (obtain ⟨z0, z1, z2, z3⟩ := item_cells2 H8.out.2.2.1))
              refine bodyPost_ret (v := .tuple #[.int .i64 0, .slice none 0 0, .slice none 0 0, .int .i64 80]) (by simp [results, Try.results16, asAddr]) rfl ?_
              exact dec_post_no HE.out (by decide) H8.out.1.bx (by have := HV.out.2.1; omega) H8.out.1.only
            case pos =>
              have HLN := Aside0.mk (And.intro (ovL_len q1) (show zs.length ≤ 7 by have h := may_many (ovE_may.1 q1); have := ovM_hi gg (vv.length : Int); omega))
              have b1' : (ovE gg vv zs != 0) = false := by rw [q1]; exact bne_self_eq_false _
              by_cases q2 : (vv.length : Int) = size
              case neg =>
                have b2' : ((vv.length : Int) != size) = true := bne_iff_ne.2 q2
                have HE := Aside0.mk (show odE r id size = 80 by rw [HOE.out, if_neg (fun h => q2 (HDC.out.1 h).2.1)])
                clear q1 q2
                go_wp2_with (go_at_call 21; refine cE.mono ?_; rintro e w8 ⟨A5, c5, hs5, rfl, hO5, hP5, hB5⟩; (have H8 := Aside0.mk (And.intro (HV.out.1.below ht hbx.out hB5) (And.intro ((hB5.block _ (Array.getElem?_eq_some_iff.1 HV.out.2.2.1).1).trans HV.out.2.2.1) (And.intro ((hB5.block _ (Array.getElem?_eq_some_iff.1 HV.out.2.2.2.1).1).trans HV.out.2.2.2.1) (And.intro (HV.out.2.2.2.2.1.below hB5) (And.intro (HV.out.2.2.2.2.2.2.below hB5) (And.intro (hO5.mono HV.out.1.only.size) (hP5.mono HV.out.1.only.size)))))))); clear hO5 hP5 hB5 cE; (obtain ⟨z0, z1, z2, z3⟩ := item_cells2 H8.out.2.2.1))
                refine bodyPost_ret (v := .tuple #[.int .i64 0, .slice none 0 0, .slice none 0 0, .int .i64 80]) (by simp [results, Try.results16, asAddr]) rfl ?_
                exact dec_post_no HE.out (by decide) H8.out.1.bx (by have := HV.out.2.1; omega) H8.out.1.only
              case pos =>
                have b2' : ((vv.length : Int) != size) = false := by rw [q2]; exact bne_self_eq_false _
                cases q3 : smB r zs (ovL gg vv zs) with
                | false =>
                  have HSM := Aside0.mk q3
                  have HE := Aside0.mk (show odE r id size = 80 by rw [HOE.out, if_neg (fun h => by have h3 := (HDC.out.1 h).2.2; rw [q3] at h3; cases h3)])
                  clear q1 q2 q3
                  go_wp2_with (first
                    | (go_at_call 21; refine cE.mono ?_; rintro e w8 ⟨A5, c5, hs5, rfl, hO5, hP5, hB5⟩; (have H8 := Aside0.mk (And.intro (HV.out.1.below ht hbx.out hB5) (And.intro ((hB5.block _ (Array.getElem?_eq_some_iff.1 HV.out.2.2.1).1).trans HV.out.2.2.1) (And.intro ((hB5.block _ (Array.getElem?_eq_some_iff.1 HV.out.2.2.2.1).1).trans HV.out.2.2.2.1) (And.intro (HV.out.2.2.2.2.1.below hB5) (And.intro (HV.out.2.2.2.2.2.2.below hB5) (And.intro (hO5.mono HV.out.1.only.size) (hP5.mono HV.out.1.only.size)))))))); clear hO5 hP5 hB5 cE; (obtain ⟨z0, z1, z2, z3⟩ := item_cells2 H8.out.2.2.1))
                    | (go_at_call 48; refine (ssame_any HR.out kk gg id mm w.heap.size A2 zs.length c2 zs A5 (ovL gg vv zs).length c5 hs5 (ovL gg vv zs) w8 (HO.out.trans H8.out.1.only) H8.out.1.bx HZB.out ht H8.out.2.2.2.2.1 H8.out.2.2.2.2.2.1 H8.out.2.2.2.2.2.2 (by rw [HLN.out.1]; exact Nat.le_refl _)).mono ?_; rintro e w9 ⟨k9, rfl, hx9, hk9, ho9⟩; rw [HSM.out]; (have H9 := Aside0.mk (And.intro (DS.mk (H8.out.1.only.trans ho9) hx9) (And.intro hk9 ho9))); clear hx9 hk9 ho9))
                  refine bodyPost_ret (v := .tuple #[.int .i64 0, .slice none 0 0, .slice none 0 0, .int .i64 80]) (by simp [results, Try.results16, asAddr]) rfl ?_
                  exact dec_post_no HE.out (by decide) H9.out.1.bx (by have := HV.out.2.1; have := H9.out.2.1; have := HLN.out.2; omega) H9.out.1.only
                | true =>
                  have HSM := Aside0.mk q3
                  have HE := Aside0.mk (show odE r id size = 0 by rw [HOE.out, if_pos (HDC.out.2 ⟨q1, q2, q3⟩)])
                  clear q1 q2 q3
                  go_upto_region 18 with (first
                    | (go_at_call 21; refine cE.mono ?_; rintro e w8 ⟨A5, c5, hs5, rfl, hO5, hP5, hB5⟩; (have H8 := Aside0.mk (And.intro (HV.out.1.below ht hbx.out hB5) (And.intro ((hB5.block _ (Array.getElem?_eq_some_iff.1 HV.out.2.2.1).1).trans HV.out.2.2.1) (And.intro ((hB5.block _ (Array.getElem?_eq_some_iff.1 HV.out.2.2.2.1).1).trans HV.out.2.2.2.1) (And.intro (HV.out.2.2.2.2.1.below hB5) (And.intro (HV.out.2.2.2.2.2.2.below hB5) (And.intro (hO5.mono HV.out.1.only.size) (hP5.mono HV.out.1.only.size)))))))); clear hO5 hP5 hB5 cE; (obtain ⟨z0, z1, z2, z3⟩ := item_cells2 H8.out.2.2.1))
                    | (go_at_call 48; refine (ssame_any HR.out kk gg id mm w.heap.size A2 zs.length c2 zs A5 (ovL gg vv zs).length c5 hs5 (ovL gg vv zs) w8 (HO.out.trans H8.out.1.only) H8.out.1.bx HZB.out ht H8.out.2.2.2.2.1 H8.out.2.2.2.2.2.1 H8.out.2.2.2.2.2.2 (by rw [HLN.out.1]; exact Nat.le_refl _)).mono ?_; rintro e w9 ⟨k9, rfl, hx9, hk9, ho9⟩; rw [HSM.out]; (have H9 := Aside0.mk (And.intro (DS.mk (H8.out.1.only.trans ho9) hx9) (And.intro hk9 ho9))); clear hx9 hk9 ho9))
                  have hMt : M ≠ t := by have := HV.out.1.only.size; omega
                  have hm9 := (H9.out.2.2.block _ (Array.getElem?_eq_some_iff.1 H8.out.2.1).1 hMt).trans H8.out.2.1
                  have hbs9 := H8.out.2.2.2.1.only H9.out.2.2 HV.out.2.2.2.2.2.1
                  have hid9 := H8.out.2.2.2.2.1.only H9.out.2.2 (fun i e => by have := H8.out.2.2.2.2.1.lo i e; omega)
                  have hBd := below_drew (Below.refl w9.heap.size w9)
                  have h10 := H9.out.1.below ht hbx.out hBd
                  have hm10 : w9.drew.heap[M]? = some (.cells #[.int .i64 ha, .int .i64 gg, .int .i64 hc, .int .i64 hn] 53) := hm9
                  have hbs10 := hbs9.below hBd
                  have hid10 := hid9.below hBd
                  obtain ⟨x0, hx0⟩ : ∃ X, w9.drew = X := ⟨_, rfl⟩
                  rw [hx0] at h10 hm10 hbs10 hid10
                  have H10 := Aside0.mk (And.intro h10 (And.intro hm10 (And.intro hbs10 hid10)))
                  clear h10 hm10 hbs10 hid10 hm9 hbs9 hid9 hBd z0 z1 z2 z3 y0 y1 y2 y3
                  refine wp_region_M (fun j => decide (j < 10)) (fun w' => w'.cell? ⟨M, 1, none⟩ = some (.int .i64 gg)) (by kernel_rfl) ?_
                  rw [hx0]
                  clear hx0
                  refine wpAnyM_take (i := 0) (v := ?_) (by simp only [List.getElem?_toArray, List.getElem?_cons_succ, List.getElem?_cons_zero]; rfl) (by kernel_rfl) (by kernel_rfl) (by kernel_rfl) (by kernel_rfl) (by exact fun _ _ _ h => h) (Or.inl ⟨by rfl, ?_⟩) (item_cells2 H10.out.2.1).2.1 ?_
                  rotate_left
                  · (intro w' hSw; (try dsimp only at hSw); go_simp; try with_reducible rfl)
                  try simp only [Act.put, List.setIfInBounds_toArray, List.set_cons_zero, List.set_cons_succ]
                  refine wpAnyM_take (i := 1) (v := ?_) (by simp only [List.getElem?_toArray, List.getElem?_cons_succ, List.getElem?_cons_zero]; rfl) (by kernel_rfl) (by kernel_rfl) (by kernel_rfl) (by kernel_rfl) (by exact fun _ _ _ h => h) (Or.inl ⟨by rfl, ?_⟩) (item_cells2 H10.out.2.1).2.1 ?_
                  rotate_left
                  · (intro w' hSw; (try dsimp only at hSw); go_simp; try with_reducible rfl)
                  try simp only [Act.put, List.setIfInBounds_toArray, List.set_cons_zero, List.set_cons_succ]
                  refine wpAnyM_take (i := 2) (v := ?_) (by simp only [List.getElem?_toArray, List.getElem?_cons_succ, List.getElem?_cons_zero]; rfl) (by kernel_rfl) (by kernel_rfl) (by kernel_rfl) (by kernel_rfl) (by exact fun _ _ _ h => h) (Or.inl ⟨by rfl, ?_⟩) (item_cells2 H10.out.2.1).2.1 ?_
                  rotate_left
                  · (intro w' hSw; (try dsimp only at hSw); go_simp; try with_reducible rfl)
                  try simp only [Act.put, List.setIfInBounds_toArray, List.set_cons_zero, List.set_cons_succ]
                  refine wpAnyM_take (i := 4) (v := ?_) (by simp only [List.getElem?_toArray, List.getElem?_cons_succ, List.getElem?_cons_zero]; rfl) (by kernel_rfl) (by kernel_rfl) (by kernel_rfl) (by kernel_rfl) (by exact fun _ _ _ h => h) (Or.inl ⟨by rfl, ?_⟩) (item_cells2 H10.out.2.1).2.1 ?_
                  rotate_left
                  · (intro w' hSw; (try dsimp only at hSw); go_simp; try with_reducible rfl)
                  try simp only [Act.put, List.setIfInBounds_toArray, List.set_cons_zero, List.set_cons_succ]
                  refine wpAnyM_one (i := 3) (by kernel_rfl) (by simp only [List.getElem?_toArray, List.getElem?_cons_succ, List.getElem?_cons_zero]; rfl) ?_
                  go_wp2_with (go_at_call 49; refine (clone8_any A1 vv.length c1 vv x0 H10.out.2.2.1).mono ?_; rintro e x1 ⟨A11, c11, rfl, hO, hB⟩; (have H11 := Aside0.mk (And.intro (H10.out.1.below ht hbx.out hB) (And.intro ((hB.block _ (Array.getElem?_eq_some_iff.1 H10.out.2.1).1).trans H10.out.2.1) (And.intro (hO.mono H10.out.1.only.size) (H10.out.2.2.2.below hB))))); clear hO hB)
                  refine ⟨(item_cells2 H11.out.2.1).2.1, ?_⟩
                  try simp only [Act.put, List.setIfInBounds_toArray, List.set_cons_zero, List.set_cons_succ]
                  refine wpAnyM_take (i := 5) (v := ?_) (by simp only [List.getElem?_toArray, List.getElem?_cons_succ, List.getElem?_cons_zero]; rfl) (by kernel_rfl) (by kernel_rfl) (by kernel_rfl) (by kernel_rfl) (by exact fun _ _ _ h => h) (Or.inl ⟨by rfl, ?_⟩) (item_cells2 H11.out.2.1).2.1 ?_
                  rotate_left
                  · (intro w' hSw; (try dsimp only at hSw); go_simp; try with_reducible rfl)
                  try simp only [Act.put, List.setIfInBounds_toArray, List.set_cons_zero, List.set_cons_succ]
                  refine wpAnyM_take (i := 6) (v := ?_) (by simp only [List.getElem?_toArray, List.getElem?_cons_succ, List.getElem?_cons_zero]; rfl) (by kernel_rfl) (by kernel_rfl) (by kernel_rfl) (by kernel_rfl) (by exact fun _ _ _ h => h) (Or.inl ⟨by rfl, ?_⟩) (item_cells2 H11.out.2.1).2.1 ?_
                  rotate_left
                  · (intro w' hSw; (try dsimp only at hSw); go_simp; try with_reducible rfl)
                  try simp only [Act.put, List.setIfInBounds_toArray, List.set_cons_zero, List.set_cons_succ]
                  refine wpAnyM_take (i := 7) (v := ?_) (by simp only [List.getElem?_toArray, List.getElem?_cons_succ, List.getElem?_cons_zero]; rfl) (by kernel_rfl) (by kernel_rfl) (by kernel_rfl) (by kernel_rfl) (by exact fun _ _ _ h => h) (Or.inl ⟨by rfl, ?_⟩) (item_cells2 H11.out.2.1).2.1 ?_
                  rotate_left
                  · (intro w' hSw; (try dsimp only at hSw); go_simp; try with_reducible rfl)
                  try simp only [Act.put, List.setIfInBounds_toArray, List.set_cons_zero, List.set_cons_succ]
                  refine wpAnyM_take (i := 8) (v := ?_) (by simp only [List.getElem?_toArray, List.getElem?_cons_succ, List.getElem?_cons_zero]; rfl) (by kernel_rfl) (by kernel_rfl) (by kernel_rfl) (by kernel_rfl) (by exact fun _ _ _ h => h) (Or.inl ⟨by rfl, ?_⟩) (item_cells2 H11.out.2.1).2.1 ?_
                  rotate_left
                  · (intro w' hSw; (try dsimp only at hSw); go_simp; try with_reducible rfl)
                  try simp only [Act.put, List.setIfInBounds_toArray, List.set_cons_zero, List.set_cons_succ]
                  refine wpAnyM_done (by kernel_rfl) ?_ _
                  go_wp2_with fail
                  refine bodyPost_ret (v := .tuple #[.int .i64 gg, .slice A11 vv.length c11, .slice A2 zs.length c2, .int .i64 0]) (by simp [results, Try.results16, asAddr]) rfl ?_
                  refine dec_post_yes HE.out HGG.out (show dcS r gg id (ovM gg size) = (vv, zs) by rw [HMM.out]; exact HVZ.out) H11.out.2.2.1 H11.out.2.2.2 H11.out.1.bx (by have := HV.out.2.1; have := H9.out.2.1; have := HLN.out.2; omega) H11.out.1.only

end Go.Proofs.Ytbjfklgmbeaaoaa
