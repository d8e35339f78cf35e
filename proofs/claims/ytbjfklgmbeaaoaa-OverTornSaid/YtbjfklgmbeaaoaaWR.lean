/- ref08's Decode. -/
import Derived.Test.YtbjfklgmbeaaoaaWQ
import Derived.Deep.CutBlock
set_option linter.unusedVariables false
set_option linter.unusedSimpArgs false
namespace Go.Proofs.Ytbjfklgmbeaaoaa
open Go.RowKit

def rdP (im : List UInt8) (id : Int) : List UInt8 := (pgI im id).getD []
def rdG (im : List UInt8) (id : Int) : Int := if hE (rdP im id) = 0 then hG (rdP im id) else 0
def rdL (im : List UInt8) (id size : Int) : List Int := rIds im (rdG im id) (ovM (rdG im id) size).toNat id
def rdA (im : List UInt8) (l : List Int) : List UInt8 := (l.map (rdP im)).flatten
def rdV0 (im : List UInt8) (g : Int) (l : List Int) : List UInt8 := if g < 3 then (l.map (fun z => (rdP im z).drop (hdI g).toNat)).flatten else []
def rdV (im : List UInt8) (g : Int) (l : List Int) : List UInt8 := if g = 3 then (rdA im l).drop 16 else rdV0 im g l
def rdOk (im : List UInt8) (id size : Int) : Prop :=
  hE (rdP im id) = 0 ∧ ovM (rdG im id) size ≠ 0 ∧ (∀ z, z ∈ rdL im id size → (pgI im z).isSome = true) ∧ size ≤ ((rdV im (rdG im id) (rdL im id size)).length : Int) ∧
  ovE (rdG im id) ((rdV im (rdG im id) (rdL im id size)).take size.toNat) (rdL im id size) = 0 ∧ (ovL (rdG im id) ((rdV im (rdG im id) (rdL im id size)).take size.toNat) (rdL im id size)).flatten = rdA im (rdL im id size)
def RdPost (im : List UInt8) (id size : Int) (w : World) (e : Ending) (w' : World) : Prop := Below w.heap.size w w' ∧
  ((¬ rdOk im id size ∧ e = .returned (.tuple #[.int .i64 0, .slice none 0 0, .slice none 0 0, .bool false])) ∨
   (rdOk im id size ∧ ∃ A1 c1 A2 c2, e = .returned (.tuple #[.int .i64 (rdG im id), .slice A1 size.toNat c1, .slice A2 (rdL im id size).length c2, .bool true]) ∧ Bs w' A1 size.toNat c1 ((rdV im (rdG im id) (rdL im id size)).take size.toNat) ∧ Oc w' w.heap.size 3 1 A2 (rdL im id size).length c2 (iv (rdL im id size))))
theorem rd_no {im : List UInt8} {id size : Int} {w w' : World} (h : ¬ rdOk im id size) (hB : Below w.heap.size w w') : RdPost im id size w (.returned (.tuple #[.int .i64 0, .slice none 0 0, .slice none 0 0, .bool false])) w' := ⟨hB, .inl ⟨h, rfl⟩⟩
theorem rdA_take {im : List UInt8} {l : List Int} {j : Nat} {z : Int} (h : l[j]? = some z) : rdA im (l.take (j + 1)) = rdA im (l.take j) ++ rdP im z := by
  unfold rdA
  rw [List.take_add_one, h, Option.toList_some, List.map_append, List.flatten_append]
  simp
theorem rdV0_take {im : List UInt8} {g : Int} {l : List Int} {j : Nat} {z : Int} (hg : g < 3) (h : l[j]? = some z) : rdV0 im g (l.take (j + 1)) = rdV0 im g (l.take j) ++ (rdP im z).drop (hdI g).toNat := by
  unfold rdV0
  rw [if_pos hg, if_pos hg, List.take_add_one, h, Option.toList_some, List.map_append, List.flatten_append]
  simp
/-- Two rows of bytes that grow side by side. -/
structure Tw (wI : World) (A16 : Option Addr) (c16 : Nat) (v : List UInt8) (A17 : Option Addr) (c17 : Nat) (a : List UInt8) (W : World) : Prop where
  bel : Below wI.heap.size wI W
  ov : Ow W wI.heap.size A16 v.length c16 v
  oa : Ow W wI.heap.size A17 a.length c17 a
  ne : ∀ i, A16 = some ⟨i, 0, none⟩ → A17 ≠ some ⟨i, 0, none⟩
theorem Below.grown9 {B : Nat} {w0 W W1 : World} {b : Option Nat} (h : Below B w0 W) (hB : B ≤ w0.heap.size) (hg : W.grownBy W1 b) (hb : ∀ i, b = some i → B ≤ i) : Below B w0 W1 :=
  ⟨hg.os.trans h.os, hg.tape.trans h.tape, hg.output.trans h.output, Nat.le_trans h.size hg.size, fun i hi => (hg.block i (by have := h.size; omega) (fun e => by have := hb i e.symm; omega)).trans (h.block i hi)⟩
theorem Ow.own8 {W : World} {base n c : Nat} {A : Option Addr} {xs : List UInt8} (h : Ow W base A n c xs) {m d i : Nat} (e : (Value.slice A m d).ownBlock = some i) : A = some ⟨i, 0, none⟩ ∧ base ≤ i ∧ i < W.heap.size := by
  rcases h.row.2 with ⟨q, _⟩ | ⟨g, cap, cur, q, hg, hh, _⟩
  · injection q with q
    rw [q] at e; cases e
  · injection q with q
    rw [q] at e
    injection e with e
    have e2 : g = i := e
    subst e2
    exact ⟨q, hg, (Array.getElem?_eq_some_iff.1 hh).1⟩
section
variable {wI W w1 : World} {A16 A17 A2 : Option Addr} {c16 c17 c2 n2 : Nat} {v a ys : List UInt8}
theorem Tw.addA (h : Tw wI A16 c16 v A17 c17 a W) (hO : Ow w1 wI.heap.size A2 (a ++ ys).length c2 (a ++ ys)) (hg : W.grownBy w1 (Value.slice A17 a.length c17).ownBlock) (hat : (Value.slice A2 n2 c2).ownBlock = (Value.slice A17 a.length c17).ownBlock ∨ (Value.slice A2 n2 c2).ownBlock = some W.heap.size) : Tw wI A16 c16 v A2 c2 (a ++ ys) w1 := by
  refine ⟨Below.grown9 h.bel (Nat.le_refl _) hg (fun i e => (h.oa.own8 e).2.1), h.ov.kept (fun i e hi => hg.block i hi (fun e2 => h.ne i e (h.oa.own8 e2.symm).1)), hO, fun i e e2 => ?_⟩
  have hi : i < W.heap.size := (h.ov.own8 (m := 0) (d := 0) (show (Value.slice A16 0 0).ownBlock = some i by rw [e]; rfl)).2.2
  have e3 : (Value.slice A2 n2 c2).ownBlock = some i := by rw [e2]; rfl
  rcases hat with q | q
  · exact h.ne i e (h.oa.own8 (q.symm.trans e3)).1
  · rw [q] at e3
    injection e3 with e3
    omega
theorem Tw.addV (h : Tw wI A16 c16 v A17 c17 a W) (hO : Ow w1 wI.heap.size A2 (v ++ ys).length c2 (v ++ ys)) (hg : W.grownBy w1 (Value.slice A16 v.length c16).ownBlock) (hat : (Value.slice A2 n2 c2).ownBlock = (Value.slice A16 v.length c16).ownBlock ∨ (Value.slice A2 n2 c2).ownBlock = some W.heap.size) : Tw wI A2 c2 (v ++ ys) A17 c17 a w1 := by
  refine ⟨Below.grown9 h.bel (Nat.le_refl _) hg (fun i e => (h.ov.own8 e).2.1), hO, h.oa.kept (fun i e hi => hg.block i hi (fun e2 => h.ne i (h.ov.own8 e2.symm).1 e)), fun i e2 e => ?_⟩
  have hi : i < W.heap.size := (h.oa.own8 (m := 0) (d := 0) (show (Value.slice A17 0 0).ownBlock = some i by rw [e]; rfl)).2.2
  have e3 : (Value.slice A2 n2 c2).ownBlock = some i := by rw [e2]; rfl
  rcases hat with q | q
  · exact h.ne i (h.ov.own8 (q.symm.trans e3)).1 e
  · rw [q] at e3
    injection e3 with e3
    omega
end
theorem rIds_len (im : List UInt8) (g : Int) : ∀ (k : Nat) (id : Int), (rIds im g k id).length ≤ k ∧ (0 < k → 0 < (rIds im g k id).length)
  | 0, _ => ⟨Nat.le_refl _, fun h => absurd h (by omega)⟩
  | k + 1, id => by
    rw [rIds]
    split
    · have := (rIds_len im g k (id + 1)).1
      rw [List.length_cons]
      omega
    · split
      · have := (rIds_len im g k (hNx ((pgI im id).getD []))).1
        rw [List.length_cons]
        omega
      · simp
theorem pgI_in {im : List UInt8} {z : Int} {q : List UInt8} (h : pgI im z = some q) : 0 ≤ z ∧ z < ((im.length / 256 : Nat) : Int) ∧ q.length = 256 ∧ q = (im.drop (256 * z.toNat)).take 256 := by
  unfold pgI at h
  split at h
  · injection h with h
    subst h
    rename_i h1
    refine ⟨h1.1, h1.2, ?_, rfl⟩
    rw [List.length_take, List.length_drop]
    omega
  · cases h
theorem rV_form (im : List UInt8) (id : Int) : ∃ ha hc hn, hV (rdP im id) = #[.int .i64 ha, .int .i64 (rdG im id), .int .i64 hc, .int .i64 hn] := by
  unfold hV rdG
  by_cases h : hE (rdP im id) = 0
  · rw [if_pos h, if_pos h]; exact ⟨_, _, _, rfl⟩
  · rw [if_neg h, if_neg h]; exact ⟨_, _, _, rfl⟩
theorem rdA_len {im : List UInt8} : ∀ {l : List Int}, (∀ z, z ∈ l → (pgI im z).isSome = true) → (rdA im l).length = 256 * l.length
  | [], _ => rfl
  | z :: l, h => by
    have h1 := h z List.mem_cons_self
    have h2 := rdA_len (l := l) (fun y hy => h y (List.mem_cons_of_mem _ hy))
    cases hp : pgI im z with
    | none => rw [hp] at h1; cases h1
    | some q =>
      have h3 := (pgI_in hp).2.2.1
      show ((rdP im z) :: l.map (rdP im)).flatten.length = _
      rw [List.flatten_cons, List.length_append]
      have h4 : (rdP im z).length = 256 := by rw [rdP, hp]; exact h3
      have h5 : ((l.map (rdP im)).flatten).length = 256 * l.length := h2
      rw [h4, h5, List.length_cons]
      omega
set_option maxHeartbeats 16000000 in
set_option maxRecDepth 100000 in
theorem rdecode8_any (A : Option Addr) (n c : Nat) (im : List UInt8) (id size : Int) (w : World) (hb : Bs w A n c im) (hn : n ≤ 100000) (hid : -9223372036854775808 ≤ id ∧ id ≤ 9223372036854775807) (hsz : -9223372036854775808 ≤ size ∧ size ≤ 9223372036854775807) :
    Calls Try.prog 19 #[.slice A n c, .int .i64 id, .int .i64 size] w fun e w' => RdPost im id size w e w' := by
  have HB := Aside0.mk (And.intro hb hb.len)
  clear hb
  obtain ⟨ha, hc, hn9, hv⟩ := rV_form im id
  obtain ⟨gg, hgg⟩ : ∃ x, rdG im id = x := ⟨_, rfl⟩
  obtain ⟨mm, hmm⟩ : ∃ x, ovM gg size = x := ⟨_, rfl⟩
  obtain ⟨p0, hp0⟩ : ∃ x, rdP im id = x := ⟨_, rfl⟩
  rw [hp0, hgg] at hv
  have HG := Aside0.mk (And.intro hgg (And.intro hmm (And.intro hp0 hv)))
  clear hgg hmm hp0 hv
  go_enter Try.func19, Try.ntmps19
  go_upto_region 3 with (first
    | (go_at_call 18; refine (rPage_any A n c im id w HB.out.1 hn).mono ?_; rintro e w2 ⟨A4, c4, rfl, hb4, rfl⟩; (have hb4 := hb4 w HB.out.1); (rw [show (pgI im id).getD [] = p0 from HG.out.2.2.1] at hb4); rw [show (pgI im id).getD [] = p0 from HG.out.2.2.1]; (have H4 := Aside0.mk hb4); clear hb4)
    | (go_at_call 26; refine (rHeadOf_any A4 p0.length c4 p0 w H4.out).mono ?_; rintro e w5 ⟨rfl, hB⟩; rw [HG.out.2.2.2]; (have H5 := Aside0.mk hB); clear hB))
  have hB6 := (Below.refl _ w5).alloc (Nat.le_refl _) (.cells #[.int .i64 ha, .int .i64 gg, .int .i64 hc, .int .i64 hn9] 56)
  have hr6 := heap_alloc_new w5 (.cells #[.int .i64 ha, .int .i64 gg, .int .i64 hc, .int .i64 hn9] 56)
  have hB7 := below_then H5.out H5.out.size hB6
  have hlo := H5.out.size
  obtain ⟨w6, hw6⟩ : ∃ X, w5.alloc (.cells #[.int .i64 ha, .int .i64 gg, .int .i64 hc, .int .i64 hn9] 56) = X := ⟨_, rfl⟩
  obtain ⟨M, hM⟩ : ∃ X, w5.heap.size = X := ⟨_, rfl⟩
  rw [hw6] at hr6 hB7
  rw [hM] at hr6 hlo
  rw [hw6, hM]
  have H6 := Aside0.mk (And.intro hr6 hB7)
  clear hr6 hB6 hB7 hw6 hM
  obtain ⟨y0, y1, y2, y3⟩ := item_cells2 H6.out.1
  go_upto_region 4 with (go_at_call 15; refine (rMany_any gg size _).mono ?_; rintro e w7 ⟨rfl, rfl⟩; rw [HG.out.2.1])
  by_cases t1 : hE p0 = 0
  case neg =>
    have b1 : (hE p0 != 0) = true := bne_iff_ne.2 t1
    have HNO := Aside0.mk (show ¬ rdOk im id size from fun h => t1 (by have := h.1; rwa [HG.out.2.2.1] at this))
    clear t1
    go_wp2_with fail
    refine bodyPost_ret (v := .tuple #[.int .i64 0, .slice none 0 0, .slice none 0 0, .bool false]) (by simp [results, Try.results19, asAddr]) rfl ?_
    exact rd_no HNO.out H6.out.2
  case pos =>
    have b1 : (hE p0 != 0) = false := by rw [t1]; exact bne_self_eq_false _
    by_cases t2 : mm = 0
    case pos =>
      have b2 : (mm == 0) = true := beq_iff_eq.2 t2
      have HNO := Aside0.mk (show ¬ rdOk im id size from fun h => h.2.1 (by rw [HG.out.1, HG.out.2.1, t2]))
      clear t1 t2
      go_wp2_with fail
      refine bodyPost_ret (v := .tuple #[.int .i64 0, .slice none 0 0, .slice none 0 0, .bool false]) (by simp [results, Try.results19, asAddr]) rfl ?_
      exact rd_no HNO.out H6.out.2
    case neg =>
      have b2 : (mm == 0) = false := beq_eq_false_iff_ne.2 t2
      have hhi := ovM_hi gg size
      rw [HG.out.2.1] at hhi
      have hin := ovM_in (g := gg) (m := size) (by rw [HG.out.2.1]; omega)
      obtain ⟨many, hmany⟩ := Int.eq_ofNat_of_zero_le (show 0 ≤ mm by omega)
      have hidb : 0 ≤ id ∧ id ≤ 100000 := by
        cases hp : pgI im id with
        | none =>
          exfalso
          have h0 : p0 = [] := by rw [← HG.out.2.2.1, rdP, hp]; rfl
          rw [h0] at t1
          exact absurd t1 (by decide)
        | some q =>
          have h9 := pgI_in hp
          have := HB.out.2
          omega
      obtain ⟨l, hl⟩ : ∃ x, rIds im gg many id = x := ⟨_, rfl⟩
      have hrl : rdL im id size = l := by unfold rdL; rw [HG.out.1, HG.out.2.1, hmany]; exact hl
      have hll := rIds_len im gg many id
      rw [hl] at hll
      have HL := Aside0.mk (And.intro hl (And.intro hrl (And.intro hll (And.intro hin (And.intro t1 (And.intro t2 hmany))))))
      have hmany2 : many ≤ 7 := by omega
      have hmany1 : 0 < many := by omega
      have hlen7 : l.length ≤ 7 := by omega
      have hlen1 : 0 < l.length := hll.2 hmany1
      obtain ⟨cp, hcp⟩ : ∃ cp : Nat, cpI gg = (cp : Int) ∧ (hdI gg).toNat + cp = 256 ∧ hdI gg = ((hdI gg).toNat : Int) := by
        have h1 := (hd_len 79 gg 0 0 ⟨by omega, by omega⟩).2
        have h2 := hd_in (g := gg) ⟨by omega, by omega⟩
        exact ⟨(cpI gg).toNat, by omega, by omega, by omega⟩
      have HCP := Aside0.mk hcp
      subst hmany
      clear t1 t2 hhi hl hrl hll hcp
      have cI := rids_any A n c im gg id many
      go_upto_block 0 with (go_at_call 51; refine (cI _ (HB.out.1.below H6.out.2) hn (by omega) hid (fun _ => hidb.2)).mono ?_; rintro e wI ⟨A15, c15, rfl, hO15, hB15⟩; (rw [HL.out.1] at hO15); rw [HL.out.1]; (have H8 := Aside0.mk (And.intro (hO15.mono H6.out.2.size) (And.intro ((hB15.block _ (Array.getElem?_eq_some_iff.1 H6.out.1).1).trans H6.out.1) (below_then H6.out.2 H6.out.2.size hB15)))); clear hO15 hB15)
      clear y0 y1 y2 y3 cI
      go_cut [16, 17] (fun v16 v17 wx => ∃ (A16 : Option Addr) (c16 : Nat) (A17 : Option Addr) (c17 : Nat), v16 = .slice A16 (rdV0 im gg l).length c16 ∧ v17 = .slice A17 (rdA im l).length c17 ∧ Aside0 (Tw wI A16 c16 (rdV0 im gg l) A17 c17 (rdA im l) wx ∧ (∀ z, z ∈ l → (pgI im z).isSome = true)))
      case first =>
        go_wp2_with fail
        go_loopg [16, 17, 18] l.length (fun gk v16 v17 v18 wr => ∃ (j : Nat) (A16 : Option Addr) (c16 : Nat) (A17 : Option Addr) (c17 : Nat), Aside (gk + j = l.length) ∧ v16 = .slice A16 (rdV0 im gg (l.take j)).length c16 ∧ v17 = .slice A17 (rdA im (l.take j)).length c17 ∧ v18 = .int .i64 (j : Int) ∧ Aside0 (Tw wI A16 c16 (rdV0 im gg (l.take j)) A17 c17 (rdA im (l.take j)) wr ∧ (∀ z, z ∈ l.take j → (pgI im z).isSome = true) ∧ (rdA im (l.take j)).length ≤ 256 * j ∧ (rdV0 im gg (l.take j)).length ≤ 256 * j))
        case atStart =>
          have e1 : rdV0 im gg (l.take 0) = [] := by unfold rdV0; split <;> rfl
          have e2 : rdA im (l.take 0) = [] := rfl
          refine ⟨0, none, 0, none, 0, rfl, by rw [e1]; rfl, by rw [e2]; rfl, rfl, ⟨?_, fun z hz => by simp at hz, by rw [e2]; simp, by rw [e1]; simp⟩⟩
          rw [e1, e2]
          exact ⟨Below.refl _ _, Ow.nil _ _, Ow.nil _ _, fun i e => by cases e⟩
        case round =>
          obtain ⟨j, A16, c16, A17, c17, hk, rfl, rfl, rfl, hI⟩ := hrel
          have hjl : j ≤ l.length := by have := hk.out; omega
          obtain ⟨vj, hvj⟩ : ∃ x, rdV0 im gg (l.take j) = x := ⟨_, rfl⟩
          obtain ⟨aj, haj⟩ : ∃ x, rdA im (l.take j) = x := ⟨_, rfl⟩
          rw [hvj, haj] at hI
          rw [hvj, haj]
          have HVA := Aside0.mk (And.intro hvj haj)
          clear hvj haj
          rcases Nat.lt_or_ge j l.length with hlt | hge
          · have dj : decide ((j : Int) < (l.length : Int)) = true := decide_eq_true (by omega)
            have dj2 : decide (j < l.length) = true := decide_eq_true hlt
            have djn : (j : Int) < (l.length : Int) := by omega
            have wj : IntKind.i64.wrap ((j : Int) + 1) = ((j + 1 : Nat) : Int) := IntWalk.i64_in _ (by omega)
            obtain ⟨ad, z, rfl, hzj, k0⟩ := (H8.out.1.below hI.out.1.bel).rc.int j hlt
            have hBw := below_then H8.out.2.2 H8.out.2.2.size hI.out.1.bel
            have HBW := Aside0.mk hBw
            have HZJ := Aside0.mk hzj
            cases hp : pgI im z with
            | none =>
              have HP := Aside0.mk hp
              have HNO := Aside0.mk (show ¬ rdOk im id size from fun h => by have h1 := h.2.2.1 z (by rw [HL.out.2.1]; exact List.mem_of_getElem? hzj); rw [hp] at h1; cases h1)
              clear hp hzj hBw
              go_wp2_with (go_at_call 18; refine (rPage_any A n c im z wr (HB.out.1.below HBW.out) hn).mono ?_; rintro e w9 ⟨A9, c9, rfl, hb9, rfl⟩; rw [HP.out])
              refine bodyPost_ret (v := .tuple #[.int .i64 0, .slice none 0 0, .slice none 0 0, .bool false]) (by simp [results, Try.results19, asAddr]) rfl ?_
              exact rd_no HNO.out HBW.out
            | some q =>
              have HP := Aside0.mk hp
              have hq := pgI_in hp
              have hqe : rdP im z = q := by rw [rdP, hp]; rfl
              have HQ := Aside0.mk (And.intro hq hqe)
              have hal : aj.length + 256 ≤ 140737488355328 := by have := hI.out.2.2.1; omega
              clear hp hzj hBw hq hqe
              have arow := (H8.out.2.1)
              by_cases g3 : gg < 3
              · have d3 : decide (gg < 3) = true := decide_eq_true g3
                have wc9 : IntKind.i64.wrap (256 - (cp : Int)) = hdI gg := (IntWalk.i64_in _ (by have := HCP.out; omega)).trans (by have := HCP.out; omega)
                have HG3 := Aside0.mk g3
                go_upto_region 15 with (go_at_call 18; refine (rPage_any A n c im z wr (HB.out.1.below HBW.out) hn).mono ?_; rintro e w9 ⟨A9, c9, rfl, hb9, rfl⟩; (have hb9 : ∀ W', Bs W' A n c im → Bs W' A9 256 c9 q := (by rw [HP.out, Option.getD_some, HQ.out.1.2.2.1] at hb9; exact hb9)); rw [HP.out, Option.getD_some, HQ.out.1.2.2.1]; (have H9 := Aside0.mk hb9); clear hb9)
                have sl := fun W => sl8_l W A9 256 c9 .i64 (hdI gg) (by have := HCP.out; omega) (by have := HCP.out; omega)
                clear k0
                go_wp2_with (first
                  | (at_builtin; refine wpl_app8 (w0 := wr) wI.heap.size rfl (.tmp 67) (.tmp 68) rfl A17 aj.length c17 aj A9 256 c9 q rfl rfl hI.out.1.oa (H9.out _ (HB.out.1.below HBW.out)) (Below.refl _ _) hI.out.1.bel.size hal ?_; intro A2 c2 w10 hO10 hB10 hg10 hat10; (have hlq : (aj ++ q).length = aj.length + 256 := (by rw [List.length_append, HQ.out.1.2.2.1])); (have hO10' : Ow w10 wI.heap.size A2 (aj ++ q).length c2 (aj ++ q) := (by rw [hlq]; exact hO10)); (have H10 := Aside0.mk (And.intro (hI.out.1.addA hO10' hg10 hat10) hlq)); clear hO10 hO10' hB10 hg10 hat10 hlq; (have hm10 := (H10.out.1.bel.block _ (Array.getElem?_eq_some_iff.1 H8.out.2.1).1).trans H8.out.2.1); (obtain ⟨y0, y1, y2, y3⟩ := item_cells2 hm10); clear hm10)
                  | (go_at_call 14; refine (rCap_any gg _).mono ?_; rintro e w11 ⟨rfl, rfl⟩; rw [HCP.out.1])
                  | (at_builtin; refine wpl_app8 (w0 := w10) wI.heap.size rfl (.tmp 73) (.tmp 79) rfl A16 vj.length c16 vj (cutA A9 c9 (hdI gg).toNat) (256 - (hdI gg).toNat) (c9 - (hdI gg).toNat) (q.drop (hdI gg).toNat) rfl rfl H10.out.1.ov ((H9.out w10 (HB.out.1.below (below_then H8.out.2.2 H8.out.2.2.size H10.out.1.bel))).drop (hdI gg).toNat (by have := HCP.out; omega)) (Below.refl _ _) H10.out.1.bel.size (by have := hI.out.2.2.2; omega) ?_; intro A12 c12 w12 hO12 hB12 hg12 hat12))
                go_roundg (l.length - (j + 1))
                case measure => have := hk.out; omega
                case rel =>
                  have eA : rdA im (l.take (j + 1)) = aj ++ q := by rw [rdA_take HZJ.out, HVA.out.2, HQ.out.2]
                  have eV : rdV0 im gg (l.take (j + 1)) = vj ++ q.drop (hdI gg).toNat := by rw [rdV0_take HG3.out HZJ.out, HVA.out.1, HQ.out.2]
                  have hlv : (vj ++ q.drop (hdI gg).toNat).length = vj.length + (256 - (hdI gg).toNat) := by rw [List.length_append, List.length_drop, HQ.out.1.2.2.1]
                  have hO12' : Ow w12 wI.heap.size A12 (vj ++ q.drop (hdI gg).toNat).length c12 (vj ++ q.drop (hdI gg).toNat) := by rw [hlv]; exact hO12
                  refine ⟨j + 1, A12, c12, A2, c2, (by show l.length - (j + 1) + (j + 1) = l.length; omega), by rw [eV, hlv], by rw [eA, H10.out.2], by go_num, ⟨?_, ?_, ?_, ?_⟩⟩
                  · rw [eV, eA]
                    exact H10.out.1.addV hO12' hg12 hat12
                  · exact fun z' hz' => by
                      rw [List.take_add_one, HZJ.out, Option.toList_some] at hz'
                      rcases List.mem_append.1 hz' with h5 | h5
                      · exact hI.out.2.1 z' h5
                      · rw [List.mem_singleton.1 h5, HP.out]; rfl
                  · rw [eA, H10.out.2]; have := hI.out.2.2.1; omega
                  · rw [eV, hlv]; have := hI.out.2.2.2; omega
              · have g3' : gg = 3 := by have := HL.out.2.2.2.1; omega
                have d3 : decide (gg < 3) = false := decide_eq_false g3
                have HG3 := Aside0.mk (And.intro g3 g3')
                clear g3 g3'
                go_wp2_with (first
                  | (go_at_call 18; refine (rPage_any A n c im z wr (HB.out.1.below HBW.out) hn).mono ?_; rintro e w9 ⟨A9, c9, rfl, hb9, rfl⟩; (have hb9 : ∀ W', Bs W' A n c im → Bs W' A9 256 c9 q := (by rw [HP.out, Option.getD_some, HQ.out.1.2.2.1] at hb9; exact hb9)); rw [HP.out, Option.getD_some, HQ.out.1.2.2.1]; (have H9 := Aside0.mk hb9); clear hb9)
                  | (at_builtin; refine wpl_app8 (w0 := wr) wI.heap.size rfl (.tmp 67) (.tmp 68) rfl A17 aj.length c17 aj A9 256 c9 q rfl rfl hI.out.1.oa (H9.out _ (HB.out.1.below HBW.out)) (Below.refl _ _) hI.out.1.bel.size hal ?_; intro A2 c2 w10 hO10 hB10 hg10 hat10; (have hlq : (aj ++ q).length = aj.length + 256 := (by rw [List.length_append, HQ.out.1.2.2.1])); (have hO10' : Ow w10 wI.heap.size A2 (aj ++ q).length c2 (aj ++ q) := (by rw [hlq]; exact hO10)); (have H10 := Aside0.mk (And.intro (hI.out.1.addA hO10' hg10 hat10) hlq)); clear hO10 hO10' hB10 hg10 hat10 hlq; (have hm10 := (H10.out.1.bel.block _ (Array.getElem?_eq_some_iff.1 H8.out.2.1).1).trans H8.out.2.1); (obtain ⟨y0, y1, y2, y3⟩ := item_cells2 hm10); clear hm10))
                go_roundg (l.length - (j + 1))
                case measure => have := hk.out; omega
                case rel =>
                  have eA : rdA im (l.take (j + 1)) = aj ++ q := by rw [rdA_take HZJ.out, HVA.out.2, HQ.out.2]
                  have eV : rdV0 im gg (l.take (j + 1)) = vj := by rw [← HVA.out.1]; have h3 : ¬ gg < 3 := (by have := HG3.out.2; omega); unfold rdV0; rw [if_neg h3, if_neg h3]
                  refine ⟨j + 1, A16, c16, A2, c2, (by show l.length - (j + 1) + (j + 1) = l.length; omega), by rw [eV], by rw [eA, H10.out.2], by go_num, ⟨?_, ?_, ?_, ?_⟩⟩
                  · rw [eV, eA]
                    exact H10.out.1
                  · exact fun z' hz' => by
                      rw [List.take_add_one, HZJ.out, Option.toList_some] at hz'
                      rcases List.mem_append.1 hz' with h5 | h5
                      · exact hI.out.2.1 z' h5
                      · rw [List.mem_singleton.1 h5, HP.out]; rfl
                  · rw [eA, H10.out.2]; have := hI.out.2.2.1; omega
                  · rw [eV]; have := hI.out.2.2.2; omega
          · obtain rfl : l.length = j := by omega
            have dj : decide ((l.length : Int) < (l.length : Int)) = false := by simp
            have dj2 : decide (l.length < l.length) = false := by simp
            have e9 := List.take_length (l := l)
            have hv9 := HVA.out.1
            have ha9 := HVA.out.2
            rw [e9] at hv9 ha9
            have HV9 := Aside0.mk (And.intro hv9 ha9)
            have hm9 := hI.out.2.1
            rw [e9] at hm9
            have HM9 := Aside0.mk hm9
            clear hv9 ha9 e9 hm9
            go_wp2_with fail
            go_meet
            rw [HV9.out.1, HV9.out.2]
            exact ⟨A16, c16, A17, c17, rfl, rfl, ⟨hI.out.1, HM9.out⟩⟩
      case rest =>
        obtain ⟨A16, c16, A17, c17, rfl, rfl, HT⟩ := hcut
        have hBw := below_then H8.out.2.2 H8.out.2.2.size HT.out.1.bel
        have hm9 := (HT.out.1.bel.block _ (Array.getElem?_eq_some_iff.1 H8.out.2.1).1).trans H8.out.2.1
        have hoi := H8.out.1.below HT.out.1.bel
        obtain ⟨aL, haL⟩ : ∃ x, rdA im l = x := ⟨_, rfl⟩
        obtain ⟨vL, hvL⟩ : ∃ x, rdV0 im gg l = x := ⟨_, rfl⟩
        obtain ⟨vv, hvv⟩ : ∃ x, rdV im gg l = x := ⟨_, rfl⟩
        have hal : aL.length = 256 * l.length := by rw [← haL]; exact rdA_len HT.out.2
        rw [haL, hvL] at HT
        rw [haL, hvL]
        have HW := Aside0.mk (And.intro hBw (And.intro hm9 (And.intro hoi (And.intro haL (And.intro hvL (And.intro hvv hal))))))
        clear hBw hm9 hoi haL hvL hvv hal
        obtain ⟨y0, y1, y2, y3⟩ := item_cells2 HW.out.2.1
        go_upto_if 83 with fail
        go_cut [16] (fun v16 wx => ∃ (A18 : Option Addr) (c18 : Nat), v16 = .slice A18 vv.length c18 ∧ wx = wc ∧ Aside0 (Bs wc A18 vv.length c18 vv))
        case first =>
          by_cases g3 : gg = 3
          · have d3 : (gg == 3) = true := beq_iff_eq.2 g3
            have evv : vv = aL.drop 16 := by rw [← HW.out.2.2.2.2.2.1, rdV, if_pos g3, HW.out.2.2.2.1]
            have sl := fun W => sl8_l W A17 aL.length c17 .i64 16 (by omega) (by have := HW.out.2.2.2.2.2.2; omega)
            simp only [show ((16 : Int)).toNat = 16 from rfl] at sl
            have HEV := Aside0.mk evv
            clear evv g3
            go_wp2_with fail
            go_meet
            have hb9 := HT.out.1.oa.bs.drop 16 (by have := HW.out.2.2.2.2.2.2; omega)
            have hlv : vv.length = aL.length - 16 := by rw [HEV.out, List.length_drop]
            rw [← HEV.out, ← hlv] at hb9
            exact ⟨cutA A17 c17 16, c17 - 16, by rw [hlv], rfl, ⟨hb9⟩⟩
          · have d3 : (gg == 3) = false := beq_eq_false_iff_ne.2 g3
            have evv : vv = vL := by rw [← HW.out.2.2.2.2.2.1, rdV, if_neg g3, HW.out.2.2.2.2.1]
            have HEV := Aside0.mk evv
            clear evv g3
            go_wp2_with fail
            go_meet
            rw [HEV.out]
            exact ⟨A16, c16, rfl, rfl, ⟨HT.out.1.ov.bs⟩⟩
        case rest =>
          obtain ⟨A18, c18, rfl, rfl, HV⟩ := hcut
          obtain ⟨vn, hvn⟩ : ∃ x, vv.length = x := ⟨_, rfl⟩
          rw [hvn] at HV
          rw [hvn]
          have HVN := Aside0.mk hvn
          clear hvn
          by_cases q1 : (vn : Int) < size
          · have d1 : decide ((vn : Int) < size) = true := decide_eq_true q1
            have HNO := Aside0.mk (show ¬ rdOk im id size from fun h => by
              have h1 := h.2.2.2.1
              rw [HG.out.1, HL.out.2.1, HW.out.2.2.2.2.2.1, HVN.out] at h1
              omega)
            clear q1
            go_wp2_with fail
            refine bodyPost_ret (v := .tuple #[.int .i64 0, .slice none 0 0, .slice none 0 0, .bool false]) (by simp [results, Try.results19, asAddr]) rfl ?_
            exact rd_no HNO.out HW.out.1
          · have d1 : decide ((vn : Int) < size) = false := decide_eq_false q1
            have hs33 := HL.out.2.2.2.1
            obtain ⟨sz, hsz9⟩ := Int.eq_ofNat_of_zero_le (show 0 ≤ size by omega)
            have hszv : sz ≤ vn := by omega
            have HSZ := Aside0.mk hsz9
            have sl := fun W => sl8_h W A18 vn c18 .i64 size (by omega) (by have := HV.out.le; omega)
            rw [show size.toNat = sz by omega] at sl
            obtain ⟨ev, hev⟩ : ∃ x, vv.take sz = x := ⟨_, rfl⟩
            have HEV := Aside0.mk hev
            have hok : rdOk im id size ↔ (ovE gg ev l = 0 ∧ (ovL gg ev l).flatten = aL) := by
              unfold rdOk
              rw [HG.out.1, HL.out.2.1, HW.out.2.2.2.2.2.1, HW.out.2.2.2.1, HG.out.2.2.1, HG.out.2.1, show size.toNat = sz by omega, hev]
              exact ⟨fun h => h.2.2.2.2, fun h => ⟨HL.out.2.2.2.2.1, HL.out.2.2.2.2.2.1, HT.out.2, by rw [HVN.out]; omega, h⟩⟩
            have HOK := Aside0.mk hok
            have hzb : ∀ z, z ∈ l → -9223372036854775808 ≤ z ∧ z ≤ 9223372036854775807 := fun z hz => by
              have h1 := HT.out.2 z hz
              cases hp : pgI im z with
              | none => rw [hp] at h1; cases h1
              | some q =>
                have h2 := pgI_in hp
                have := HB.out.2
                omega
            have HZB := Aside0.mk hzb
            clear q1 hok hev hsz9 hzb
            go_upto_region 22 with fail
            have hBd := below_drew (Below.refl wc.heap.size wc)
            have hx1 := HV.out.below hBd
            have hx2 := HW.out.2.2.1.below hBd
            have hx3 := HT.out.1.oa.below hBd
            have hx4 : wc.drew.heap[M]? = some (.cells #[.int .i64 ha, .int .i64 gg, .int .i64 hc, .int .i64 hn9] 56) := HW.out.2.1
            have hx5 := below_then HW.out.1 HW.out.1.size hBd
            obtain ⟨x0, hx0⟩ : ∃ X, wc.drew = X := ⟨_, rfl⟩
            rw [hx0] at hx1 hx2 hx3 hx4 hx5
            have HX := Aside0.mk (And.intro hx1 (And.intro hx2 (And.intro hx3 (And.intro hx4 hx5))))
            clear hx1 hx2 hx3 hx4 hx5 hBd y0 y1 y2 y3
            refine wp_region_M (fun j => decide (j < 12)) (fun w' => w'.cell? ⟨M, 0, none⟩ = some (.int .i64 ha) ∧ w'.cell? ⟨M, 1, none⟩ = some (.int .i64 gg) ∧ w'.cell? ⟨M, 2, none⟩ = some (.int .i64 hc) ∧ w'.cell? ⟨M, 3, none⟩ = some (.int .i64 hn9)) (by kernel_rfl) ?_
            rw [hx0]
            clear hx0
            refine wpAnyM_take (i := 0) (v := ?_) (by simp only [List.getElem?_toArray, List.getElem?_cons_succ, List.getElem?_cons_zero]; rfl) (by kernel_rfl) (by kernel_rfl) (by kernel_rfl) (by kernel_rfl) (by exact fun _ _ _ h => h) (Or.inl ⟨by rfl, ?_⟩) (item_cells2 HX.out.2.2.2.1) ?_
            rotate_left
            · (intro w' hSw; (try dsimp only at hSw); go_simp; try with_reducible rfl)
            try simp only [Act.put, List.setIfInBounds_toArray, List.set_cons_zero, List.set_cons_succ]
            refine wpAnyM_take (i := 1) (v := ?_) (by simp only [List.getElem?_toArray, List.getElem?_cons_succ, List.getElem?_cons_zero]; rfl) (by kernel_rfl) (by kernel_rfl) (by kernel_rfl) (by kernel_rfl) (by exact fun _ _ _ h => h) (Or.inl ⟨by rfl, ?_⟩) (item_cells2 HX.out.2.2.2.1) ?_
            rotate_left
            · (intro w' hSw; (try dsimp only at hSw); go_simp; try with_reducible rfl)
            try simp only [Act.put, List.setIfInBounds_toArray, List.set_cons_zero, List.set_cons_succ]
            refine wpAnyM_take (i := 2) (v := ?_) (by simp only [List.getElem?_toArray, List.getElem?_cons_succ, List.getElem?_cons_zero]; rfl) (by kernel_rfl) (by kernel_rfl) (by kernel_rfl) (by kernel_rfl) (by exact fun _ _ _ h => h) (Or.inl ⟨by rfl, ?_⟩) (item_cells2 HX.out.2.2.2.1) ?_
            rotate_left
            · (intro w' hSw; (try dsimp only at hSw); go_simp; try with_reducible rfl)
            try simp only [Act.put, List.setIfInBounds_toArray, List.set_cons_zero, List.set_cons_succ]
            refine wpAnyM_take (i := 3) (v := ?_) (by simp only [List.getElem?_toArray, List.getElem?_cons_succ, List.getElem?_cons_zero]; rfl) (by kernel_rfl) (by kernel_rfl) (by kernel_rfl) (by kernel_rfl) (by exact fun _ _ _ h => h) (Or.inl ⟨by rfl, ?_⟩) (item_cells2 HX.out.2.2.2.1) ?_
            rotate_left
            · (intro w' hSw; (try dsimp only at hSw); go_simp; try with_reducible rfl)
            try simp only [Act.put, List.setIfInBounds_toArray, List.set_cons_zero, List.set_cons_succ]
            refine wpAnyM_take (i := 4) (v := ?_) (by simp only [List.getElem?_toArray, List.getElem?_cons_succ, List.getElem?_cons_zero]; rfl) (by kernel_rfl) (by kernel_rfl) (by kernel_rfl) (by kernel_rfl) (by exact fun _ _ _ h => h) (Or.inl ⟨by rfl, ?_⟩) (item_cells2 HX.out.2.2.2.1) ?_
            rotate_left
            · (intro w' hSw; (try dsimp only at hSw); go_simp; try with_reducible rfl)
            try simp only [Act.put, List.setIfInBounds_toArray, List.set_cons_zero, List.set_cons_succ]
            refine wpAnyM_take (i := 5) (v := ?_) (by simp only [List.getElem?_toArray, List.getElem?_cons_succ, List.getElem?_cons_zero]; rfl) (by kernel_rfl) (by kernel_rfl) (by kernel_rfl) (by kernel_rfl) (by exact fun _ _ _ h => h) (Or.inl ⟨by rfl, ?_⟩) (item_cells2 HX.out.2.2.2.1) ?_
            rotate_left
            · (intro w' hSw; (try dsimp only at hSw); go_simp; try with_reducible rfl)
            try simp only [Act.put, List.setIfInBounds_toArray, List.set_cons_zero, List.set_cons_succ]
            refine wpAnyM_one (i := 6) (by kernel_rfl) (by simp only [List.getElem?_toArray, List.getElem?_cons_succ, List.getElem?_cons_zero]; rfl) ?_
            have cE := rencode8_any gg A18 sz c18 ev A15 l.length c15 l x0 ⟨HL.out.2.2.2.1.1, HL.out.2.2.2.1.2.1⟩ (by rw [← HEV.out]; exact HX.out.1.take sz hszv) HX.out.2.1.rc HZB.out
            obtain ⟨fl, hfl⟩ : ∃ x, (ovL gg ev l).flatten = x := ⟨_, rfl⟩
            rw [hfl] at cE HOK
            clear hfl
            go_wp2_with (go_at_call 52; refine cE.mono ?_; rintro e x1 ⟨A5, c5, rfl, hO, hB⟩; (have HE := Aside0.mk (And.intro hO (And.intro (HX.out.1.below hB) (And.intro (HX.out.2.1.below hB) (And.intro (HX.out.2.2.1.below hB) (And.intro ((hB.block _ (Array.getElem?_eq_some_iff.1 HX.out.2.2.2.1).1).trans HX.out.2.2.2.1) (below_then HX.out.2.2.2.2 HX.out.2.2.2.2.size hB))))))); clear hO hB)
            clear cE
            refine ⟨item_cells2 HE.out.2.2.2.2.1, ?_⟩
            try simp only [Act.put, List.setIfInBounds_toArray, List.set_cons_zero, List.set_cons_succ]
            refine wpAnyM_take (i := 7) (v := ?_) (by simp only [List.getElem?_toArray, List.getElem?_cons_succ, List.getElem?_cons_zero]; rfl) (by kernel_rfl) (by kernel_rfl) (by kernel_rfl) (by kernel_rfl) (by exact fun _ _ _ h => h) (Or.inl ⟨by rfl, ?_⟩) (item_cells2 HE.out.2.2.2.2.1) ?_
            rotate_left
            · (intro w' hSw; (try dsimp only at hSw); go_simp; try with_reducible rfl)
            try simp only [Act.put, List.setIfInBounds_toArray, List.set_cons_zero, List.set_cons_succ]
            refine wpAnyM_take (i := 8) (v := ?_) (by simp only [List.getElem?_toArray, List.getElem?_cons_succ, List.getElem?_cons_zero]; rfl) (by kernel_rfl) (by kernel_rfl) (by kernel_rfl) (by kernel_rfl) (by exact fun _ _ _ h => h) (Or.inl ⟨by rfl, ?_⟩) (item_cells2 HE.out.2.2.2.2.1) ?_
            rotate_left
            · (intro w' hSw; (try dsimp only at hSw); go_simp; try with_reducible rfl)
            try simp only [Act.put, List.setIfInBounds_toArray, List.set_cons_zero, List.set_cons_succ]
            refine wpAnyM_take (i := 10) (v := ?_) (by simp only [List.getElem?_toArray, List.getElem?_cons_succ, List.getElem?_cons_zero]; rfl) (by kernel_rfl) (by kernel_rfl) (by kernel_rfl) (by kernel_rfl) (by exact fun _ _ _ h => h) (Or.inl ⟨by rfl, ?_⟩) (item_cells2 HE.out.2.2.2.2.1) ?_
            rotate_left
            · (intro w' hSw; (try dsimp only at hSw); go_simp; try with_reducible rfl)
            try simp only [Act.put, List.setIfInBounds_toArray, List.set_cons_zero, List.set_cons_succ]
            refine wpAnyM_take (i := 9) (v := ?_) (by simp only [List.getElem?_toArray, List.getElem?_cons_succ, List.getElem?_cons_zero]; rfl) (by kernel_rfl) (by kernel_rfl) (by kernel_rfl) (by kernel_rfl) (by exact fun _ _ _ h => h) (Or.inl ⟨by rfl, ?_⟩) (item_cells2 HE.out.2.2.2.2.1) ?_
            rotate_left
            · (intro w' hSw; (try dsimp only at hSw); go_simp; try with_reducible rfl)
            try simp only [Act.put, List.setIfInBounds_toArray, List.set_cons_zero, List.set_cons_succ]
            refine wpAnyM_take (i := 11) (v := ?_) (by simp only [List.getElem?_toArray, List.getElem?_cons_succ, List.getElem?_cons_zero]; rfl) (by kernel_rfl) (by kernel_rfl) (by kernel_rfl) (by kernel_rfl) (by exact fun _ _ _ h => h) (Or.inl ⟨by rfl, ?_⟩) (item_cells2 HE.out.2.2.2.2.1) ?_
            rotate_left
            · (intro w' hSw; (try dsimp only at hSw); go_simp; try with_reducible rfl)
            try simp only [Act.put, List.setIfInBounds_toArray, List.set_cons_zero, List.set_cons_succ]
            refine wpAnyM_done (by kernel_rfl) ?_ _
            by_cases q2 : ovE gg ev l = 0
            case neg =>
              have b3 : (ovE gg ev l != 0) = true := bne_iff_ne.2 q2
              have HNO := Aside0.mk (show ¬ rdOk im id size from fun h => q2 (HOK.out.1 h).1)
              clear q2
              go_wp2_with fail
              refine bodyPost_ret (v := .tuple #[.int .i64 0, .slice none 0 0, .slice none 0 0, .bool false]) (by simp [results, Try.results19, asAddr]) rfl ?_
              exact rd_no HNO.out HE.out.2.2.2.2.2
            case pos =>
              have b3 : (ovE gg ev l != 0) = false := by rw [q2]; exact bne_self_eq_false _
              have s1 := conv8 HE.out.1.bs
              have s2 := conv8 HE.out.2.2.2.1.bs
              by_cases q3 : fl = aL
              case neg =>
                have s3 : ((strB fl).toList == (strB aL).toList) = false := by rw [strB_list, strB_list]; exact beq_eq_false_iff_ne.2 q3
                have HNO := Aside0.mk (show ¬ rdOk im id size from fun h => q3 (HOK.out.1 h).2)
                clear q2 q3
                go_wp2_with fail
                refine bodyPost_ret (v := .tuple #[.int .i64 0, .slice none 0 0, .slice none 0 0, .bool false]) (by simp [results, Try.results19, asAddr]) rfl ?_
                exact rd_no HNO.out HE.out.2.2.2.2.2
              case pos =>
                have s3 : ((strB fl).toList == (strB aL).toList) = true := by rw [strB_list, strB_list]; exact beq_iff_eq.2 q3
                have HYES := Aside0.mk (show rdOk im id size from HOK.out.2 ⟨q2, q3⟩)
                clear q2 q3
                go_upto_region 25 with fail
                obtain ⟨y0, y1, y2, y3⟩ := item_cells2 HE.out.2.2.2.2.1
                refine wp_region_ext (by kernel_rfl) (by kernel_rfl) ?_
                have a1 := cell_ext y1
                clear y0 y1 y2 y3 s1 s2 s3
                repeat (go_big_quiet_step (fail))
                refine wpQuiet_nil ?_
                rintro w' ⟨kx, rfl⟩
                clear a1
                have hB9 := below_then HE.out.2.2.2.2.2 HE.out.2.2.2.2.2.size kx.bel
                have hV9 := (HE.out.2.1.below kx.bel).take sz hszv
                have hO9 := HE.out.2.2.1.below kx.bel
                rw [HEV.out] at hV9
                have H9 := Aside0.mk (And.intro hB9 (And.intro hV9 hO9))
                clear hB9 hV9 hO9
                go_wp2_with fail
                refine bodyPost_ret (v := .tuple #[.int .i64 gg, .slice A18 sz c18, .slice A15 l.length c15, .bool true]) (by simp [results, Try.results19, asAddr]) rfl ?_
                refine ⟨H9.out.1, .inr ⟨HYES.out, A18, c18, A15, c15, ?_, ?_, ?_⟩⟩
                · rw [HG.out.1, HL.out.2.1, show size.toNat = sz by have := HSZ.out; omega]
                · rw [HG.out.1, HL.out.2.1, HW.out.2.2.2.2.2.1, show size.toNat = sz by have := HSZ.out; omega, HEV.out]
                  exact H9.out.2.1
                · rw [HL.out.2.1]
                  exact H9.out.2.2
end Go.Proofs.Ytbjfklgmbeaaoaa
