/- Calls (Op) of the laws on disks; the walks of few, does and alive. -/
import Derived.Test.YtcegphnhohpegaaD13
import Derived.Test.YtcegphnhohpegaaU1
set_option linter.unusedVariables false
set_option linter.unusedSimpArgs false
namespace Go.Proofs.Ytcegphnhohpegaa
open Go.RowKit

/-- A call, as a value. -/
structure OpW where
  k : Int
  at_ : Int
  many : Int
  b : List UInt8
  keep : List Bool
structure OpD (w : World) (p : Addr) (o : OpW) (B : Option Addr) (m d : Nat) (K : Option Addr) (kn kc : Nat) : Prop where
  c0 : w.cell? p = some (.int .i64 o.k)
  c1 : w.cell? ⟨p.block, p.off + 1, none⟩ = some (.int .i64 o.at_)
  c2 : w.cell? ⟨p.block, p.off + 2, none⟩ = some (.int .i64 o.many)
  c3 : w.cell? ⟨p.block, p.off + 3, none⟩ = some (.slice B m d)
  c4 : w.cell? ⟨p.block, p.off + 4, none⟩ = some (.slice K kn kc)
  row : Bs w B m d o.b
  kr : Rb w K kn kc o.keep
  bk : -9223372036854775808 ≤ o.k ∧ o.k ≤ 9223372036854775807
  ba : -9223372036854775808 ≤ o.at_ ∧ o.at_ ≤ 9223372036854775807
  bm : -9223372036854775808 ≤ o.many ∧ o.many ≤ 9223372036854775807
theorem Rb.map {w w1 : World} {A : Option Addr} {n c : Nat} {ks : List Bool} (h : Rb w A n c ks) (hb : ∀ a v, w.cell? a = some v → w1.cell? a = some v) : Rb w1 A n c ks :=
  ⟨h.len, h.le, h.cap, h.lim, fun hn => by
    obtain ⟨ad, e, hc⟩ := h.cells hn
    exact ⟨ad, e, fun j hj => hb _ _ (hc j hj)⟩⟩
theorem Rb.below {w w1 : World} {A : Option Addr} {n c : Nat} {ks : List Bool} (h : Rb w A n c ks) (hb : Below w.heap.size w w1) : Rb w1 A n c ks := h.map fun _ _ hc => cell_below hb hc
theorem OpD.below {w w1 : World} {p : Addr} {o : OpW} {B K : Option Addr} {m d kn kc : Nat} (h : OpD w p o B m d K kn kc) (hb : Below w.heap.size w w1) : OpD w1 p o B m d K kn kc :=
  ⟨cell_below hb h.c0, cell_below hb h.c1, cell_below hb h.c2, cell_below hb h.c3, cell_below hb h.c4, h.row.below hb, h.kr.below hb, h.bk, h.ba, h.bm⟩
def op0 : OpW := ⟨0, 0, 0, [], []⟩
structure OpsD (w : World) (A : Option Addr) (n c : Nat) (l : List OpW) : Prop where
  len : l.length = n
  le : n ≤ c
  cap : c ≤ 9223372036854775807
  lim : n ≤ 140737488355328
  cells : 0 < n → ∃ ad, A = some ad ∧ ∀ j, (hj : j < n) → ∃ B m d K kn kc, OpD w (ad.add (j * 5)) (l.getD j op0) B m d K kn kc
theorem OpsD.atN {w : World} {A : Option Addr} {n c : Nat} {l : List OpW} (h : OpsD w A n c l) (i : Nat) (h1 : i < n) :
    ∃ ad, A = some ad ∧ ∃ B m d K kn kc, OpD w (ad.add (i * 5)) (l.getD i op0) B m d K kn kc := by
  obtain ⟨ad, e, hc⟩ := h.cells (by omega)
  exact ⟨ad, e, hc _ h1⟩
theorem OpsD.below {w w1 : World} {A : Option Addr} {n c : Nat} {l : List OpW} (h : OpsD w A n c l) (hb : Below w.heap.size w w1) : OpsD w1 A n c l :=
  ⟨h.len, h.le, h.cap, h.lim, fun hn => by
    obtain ⟨ad, e, hc⟩ := h.cells hn
    exact ⟨ad, e, fun j hj => by obtain ⟨B, m, d, K, kn, kc, h1⟩ := hc j hj; exact ⟨B, m, d, K, kn, kc, h1.below hb⟩⟩⟩
/-- All its bytes and truths, counted. -/
def totD (l : List OpW) : Nat → Nat
  | 0 => 0
  | k + 1 => totD l k + ((l.getD k op0).b.length + (l.getD k op0).keep.length)
def totX (l : List OpW) : Nat → Int
  | 0 => 0
  | k + 1 => wrap64 (totX l k + wrap64 (((l.getD k op0).b.length : Int) + ((l.getD k op0).keep.length : Int)))
theorem totX_eq {w : World} {A : Option Addr} {n c : Nat} {l : List OpW} (h : OpsD w A n c l) (hn : n ≤ 60) : ∀ j, j ≤ n → totX l j = (totD l j : Int) ∧ totD l j ≤ j * 281474976710656
  | 0, _ => ⟨rfl, by simp [totD]⟩
  | j + 1, hj => by
    obtain ⟨e, hl⟩ := totX_eq h hn j (by omega)
    obtain ⟨ad, _, B, m, d, K, kn, kc, ho⟩ := h.atN j (by omega)
    have h1 := ho.row.lim
    have h2 := ho.kr.lim
    have h3 := ho.row.len
    have h4 := ho.kr.len
    have hw : ∀ x : Int, -9223372036854775808 ≤ x ∧ x ≤ 9223372036854775807 → wrap64 x = x := fun x hx => by unfold wrap64; omega
    refine ⟨?_, ?_⟩
    · show wrap64 (totX l j + wrap64 _) = ((totD l j + _ : Nat) : Int)
      rw [e, hw (((l.getD j op0).b.length : Int) + ((l.getD j op0).keep.length : Int)) (by omega), hw _ (by omega)]
      omega
    · show totD l j + _ ≤ _
      omega
theorem totD_le (l : List OpW) (n : Nat) : ∀ j, j < n → totD l j + (l.getD j op0).b.length ≤ totD l n := by
  intro j hj
  induction n with
  | zero => omega
  | succ n ih =>
    show _ ≤ totD l n + _
    rcases Nat.lt_or_ge j n with q | q
    · have := ih q; omega
    · obtain rfl : j = n := by omega
      omega
/-- Is no disk asked to grow too far? -/
def okO (o : OpW) : Prop := ¬ (o.k = 0 ∧ 64 < o.at_ ∧ o.at_ ≤ 65536)
structure FewQ (n : Nat) (l : List OpW) : Prop where
  n60 : n ≤ 60
  tot : totD l n ≤ 8000
  ok : ∀ j, j < n → okO (l.getD j op0)
theorem row5_cells {W : World} {g : Nat} {T : TypeId} {a b c d e : Value} (k : W.heap[g]? = some (.cells #[a, b, c, d, e] T)) :
    W.cell? ⟨g, 0, none⟩ = some a ∧ W.cell? ⟨g, 1, none⟩ = some b ∧ W.cell? ⟨g, 2, none⟩ = some c ∧ W.cell? ⟨g, 3, none⟩ = some d ∧ W.cell? ⟨g, 4, none⟩ = some e :=
  ⟨by rw [cell_of_row _ _ _ _ _ _ k]; rfl, by rw [cell_of_row _ _ _ _ _ _ k]; rfl, by rw [cell_of_row _ _ _ _ _ _ k]; rfl, by rw [cell_of_row _ _ _ _ _ _ k]; rfl, by rw [cell_of_row _ _ _ _ _ _ k]; rfl⟩
def FewC (w : World) (n : Nat) (l : List OpW) (e : Ending) (w' : World) : Prop := ∃ b, e = .returned (.bool b) ∧ (b = true → FewQ n l) ∧ (FewQ n l → b = true) ∧ Below w.heap.size w w'
set_option maxHeartbeats 4000000 in
set_option maxRecDepth 100000 in
theorem fewD_any (A : Option Addr) (n c : Nat) (l : List OpW) (w : World) (h : OpsD w A n c l) :
    Calls Try.prog 7 #[.slice A n c] w fun e w' => FewC w n l e w' := by
  have hlim := h.lim
  have HH := Aside0.mk h
  clear h
  go_enter Try.func7, Try.ntmps7
  go_wp2_with fail
  go_loopg [3, 8] n (fun k v3 v8 wr => ∃ j : Nat, Aside (k + j = n) ∧ v8 = .int .i64 (j : Int) ∧ v3 = .int .i64 (totX l j) ∧ Aside0 ((∀ i, i < j → okO (l.getD i op0)) ∧ Below w.heap.size w wr))
  case atStart => exact ⟨0, rfl, rfl, rfl, ⟨fun i hi => absurd hi (by omega), Below.refl _ _⟩⟩
  case round =>
    obtain ⟨j, hk, rfl, rfl, hB⟩ := hrel
    have hjb : j ≤ n := by have := hk.out; omega
    by_cases hlt : j < n
    · obtain ⟨ad, rfl, B, m, d, K, kn, kc, hop⟩ := HH.out.atN j hlt
      replace hop := hop.below hB.out.2
      obtain ⟨o, ho⟩ : ∃ o, l.getD j op0 = o := ⟨_, rfl⟩
      rw [ho] at hop
      obtain ⟨c0, c1, c2, c3, c4, hrow, hkr, _, _, _⟩ := hop
      have hjn : (j : Int) < (n : Int) := by omega
      have ht : totX l (j + 1) = wrap64 (totX l j + wrap64 ((m : Int) + (kn : Int))) := by
        show wrap64 (totX l j + wrap64 (((l.getD j op0).b.length : Int) + ((l.getD j op0).keep.length : Int))) = _
        rw [ho, hrow.len, hkr.len]
      have HT := Aside0.mk ht
      have HO := Aside0.mk ho
      clear hrow hkr ht ho
      have fin : okO o → ∀ i, i < j + 1 → okO (l.getD i op0) := fun q i hi => by
        rcases Nat.lt_or_ge i j with q2 | q2
        · exact hB.out.1 i q2
        · obtain rfl : i = j := by omega
          rw [HO.out]; exact q
      have FIN := Aside0.mk fin
      clear fin
      by_cases q0 : o.k = 0
      · have f0 : (o.k == 0) = true := beq_iff_eq.2 q0
        have HQ0 := Aside0.mk q0
        clear q0
        by_cases q1 : 64 < o.at_
        · have f1 : decide (64 < o.at_) = true := decide_eq_true q1
          by_cases q2 : o.at_ ≤ 65536
          · have f2 : decide (o.at_ ≤ 65536) = true := decide_eq_true q2
            go_wp2_with fail
            go_ret
            exact ⟨false, rfl, (fun q => by cases q), fun q => absurd (show o.k = 0 ∧ 64 < o.at_ ∧ o.at_ ≤ 65536 from ⟨HQ0.out, q1, q2⟩) (HO.out ▸ q.ok j hlt), hB.out.2.alloc hB.out.2.size _⟩
          · have f2 : decide (o.at_ ≤ 65536) = false := decide_eq_false q2
            go_wp2_with fail
            go_roundg (n - (j + 1))
            case measure => have := hk.out; omega
            case rel => exact ⟨j + 1, by have := hk.out; exact (show n - (j + 1) + (j + 1) = n by omega), by go_num, by rw [HT.out], ⟨FIN.out (fun q => by have := q.2.2; omega), hB.out.2.alloc hB.out.2.size _⟩⟩
        · have f1 : decide (64 < o.at_) = false := decide_eq_false q1
          go_wp2_with fail
          go_roundg (n - (j + 1))
          case measure => have := hk.out; omega
          case rel => exact ⟨j + 1, by have := hk.out; exact (show n - (j + 1) + (j + 1) = n by omega), by go_num, by rw [HT.out], ⟨FIN.out (fun q => by have := q.2.1; omega), hB.out.2.alloc hB.out.2.size _⟩⟩
      · have f0 : (o.k == 0) = false := beq_eq_false_iff_ne.2 q0
        have HQ0 := Aside0.mk q0
        clear q0
        go_wp2_with fail
        go_roundg (n - (j + 1))
        case measure => have := hk.out; omega
        case rel => exact ⟨j + 1, by have := hk.out; exact (show n - (j + 1) + (j + 1) = n by omega), by go_num, by rw [HT.out], ⟨FIN.out (fun q => HQ0.out q.1), hB.out.2.alloc hB.out.2.size _⟩⟩
    · obtain rfl : j = n := by omega
      by_cases h1 : j ≤ 60
      · have f1 : decide ((j : Int) ≤ 60) = true := decide_eq_true (by omega)
        have he := Aside0.mk (totX_eq HH.out h1 j (Nat.le_refl _)).1
        by_cases h2 : totX l j ≤ 8000
        · have f2 : decide (totX l j ≤ 8000) = true := decide_eq_true h2
          go_wp2
          go_ret
          exact ⟨true, rfl, fun _ => ⟨h1, by have := he.out; omega, hB.out.1⟩, fun _ => rfl, hB.out.2⟩
        · have f2 : decide (totX l j ≤ 8000) = false := decide_eq_false h2
          go_wp2
          go_ret
          exact ⟨false, rfl, (fun q => by cases q), fun q => absurd q.tot (by have := he.out; omega), hB.out.2⟩
      · have f1 : decide ((j : Int) ≤ 60) = false := decide_eq_false (by omega)
        go_wp2
        go_ret
        exact ⟨false, rfl, (fun q => by cases q), fun q => absurd q.n60 h1, hB.out.2⟩
theorem few_yes (A : Option Addr) (n c : Nat) (l : List OpW) (w : World) (h : OpsD w A n c l) (hq : FewQ n l) : Calls Try.prog 7 #[.slice A n c] w fun e w' => e = .returned (.bool true) ∧ Below w.heap.size w w' :=
  (fewD_any A n c l w h).mono fun e w' ⟨b, he, _, hb, hB⟩ => ⟨by rw [he, hb hq], hB⟩
theorem few_no (A : Option Addr) (n c : Nat) (l : List OpW) (w : World) (h : OpsD w A n c l) (hq : ¬ FewQ n l) : Calls Try.prog 7 #[.slice A n c] w fun e w' => e = .returned (.bool false) ∧ Below w.heap.size w w' :=
  (fewD_any A n c l w h).mono fun e w' ⟨b, he, hb, _, hB⟩ => ⟨by cases b with
    | false => exact he
    | true => exact absurd (hb rfl) hq, hB⟩
theorem DH.holdx {w0 : World} {g : Nat} {R : List (Nat × Obj)} {d : DV} {W W1 : World} (h : DH w0 g R d W) (hB : Below W.heap.size W W1) (i : Nat) (hi : W.heap.size ≤ i) (hl : i < W1.heap.size) : ∃ o, DH w0 g ((i, o) :: R) d W1 :=
  ⟨_, h.hold hB i _ hi (Array.getElem?_eq_getElem hl)⟩
/-- What a call does. -/
def doesE (d : DV) (o : OpW) : Int := if o.k = 0 then growE d o.at_ else if o.k = 1 then readE d o.at_ o.many else if o.k = 2 then writeE d o.at_ o.b else syncE d
def doesD (d : DV) (o : OpW) : DV := if o.k = 0 then growD d o.at_ else if o.k = 1 then d else if o.k = 2 then writeD d o.at_ o.b else syncD d
set_option maxHeartbeats 4000000 in
set_option maxRecDepth 100000 in
theorem does_h {w0 : World} {g : Nat} {R : List (Nat × Obj)} {d : DV} {W : World} (h : DH w0 g R d W) (o : OpW) (B K : Option Addr) (m bc kn kc : Nat) (hk : 0 ≤ o.k ∧ o.k ≤ 3) (hb : Bs W B m bc o.b) (hB : Free w0 R B m) (hmk : d.row.length + m ≤ 1000000) (h0 : 0 ≤ d.ops) (h1 : d.ops ≤ 1000000) (h3 : d.fuse ≤ 9223372036854775807) :
    Calls Try.prog 19 #[.pointer (some ⟨g, 0, none⟩), .agg #[.int .i64 o.k, .int .i64 o.at_, .int .i64 o.many, .slice B m bc, .slice K kn kc]] W fun e w' => ∃ v, e = .returned (.tuple #[v, .int .i64 (doesE d o)]) ∧ DH w0 g R (doesD d o) w' := by
  have HD := Aside0.mk (h.step ((Below.refl _ W).alloc (Nat.le_refl _) (.cells #[.int .i64 o.k, .int .i64 o.at_, .int .i64 o.many, .slice B m bc, .slice K kn kc] 34)))
  have HR := Aside0.mk (heap_alloc_new W (.cells #[.int .i64 o.k, .int .i64 o.at_, .int .i64 o.many, .slice B m bc, .slice K kn kc] 34))
  have HB := Aside0.mk (hb.alloc (.cells #[.int .i64 o.k, .int .i64 o.at_, .int .i64 o.many, .slice B m bc, .slice K kn kc] 34))
  have HX := Aside0.mk (And.intro hB (And.intro hmk (And.intro h0 (And.intro h1 h3))))
  clear h hb hB hmk h0 h1 h3
  go_enter Try.func19, Try.ntmps19
  go_upto_region 1 with fail
  obtain ⟨W0, hW0⟩ : ∃ X, W.alloc (.cells #[.int .i64 o.k, .int .i64 o.at_, .int .i64 o.many, .slice B m bc, .slice K kn kc] 34) = X := ⟨_, rfl⟩
  obtain ⟨N, hN⟩ : ∃ X, W.heap.size = X := ⟨_, rfl⟩
  rw [hW0] at HD HB HR ⊢
  rw [hN] at HR ⊢
  obtain ⟨c0, c1, c2, c3, c4⟩ := row5_cells HR.out
  clear hW0 hN HR
  by_cases q0 : o.k = 0
  · have f0 : (o.k == 0) = true := beq_iff_eq.2 q0
    have HE := Aside0.mk (And.intro (show doesE d o = growE d o.at_ from if_pos q0) (show doesD d o = growD d o.at_ from if_pos q0))
    clear q0
    go_wp2_with (go_at_call 23; refine (grow_h HD.out o.at_).mono ?_; rintro e1 w1 ⟨rfl, hH⟩; (have HH := Aside0.mk hH); clear hH)
    go_ret2
    rw [HE.out.1, HE.out.2]
    exact ⟨_, rfl, HH.out⟩
  · have f0 : (o.k == 0) = false := beq_eq_false_iff_ne.2 q0
    by_cases q1 : o.k = 1
    · have f1 : (o.k == 1) = true := beq_iff_eq.2 q1
      have HE := Aside0.mk (And.intro (show doesE d o = readE d o.at_ o.many from (if_neg q0).trans (if_pos q1)) (show doesD d o = d from (if_neg q0).trans (if_pos q1)))
      clear q0 q1
      go_wp2_with (go_at_call 25; refine (read_h HD.out o.at_ o.many).mono ?_; rintro e1 w1 ⟨A1, c1', rfl, hO, hB1⟩; (have HH := Aside0.mk (HD.out.step hB1)); clear hO hB1)
      go_ret2
      rw [HE.out.1, HE.out.2]
      exact ⟨_, rfl, HH.out⟩
    · have f1 : (o.k == 1) = false := beq_eq_false_iff_ne.2 q1
      by_cases q2 : o.k = 2
      · have f2 : (o.k == 2) = true := beq_iff_eq.2 q2
        have HE := Aside0.mk (And.intro (show doesE d o = writeE d o.at_ o.b from (if_neg q0).trans ((if_neg q1).trans (if_pos q2))) (show doesD d o = writeD d o.at_ o.b from (if_neg q0).trans ((if_neg q1).trans (if_pos q2))))
        clear q0 q1 q2
        go_wp2_with (go_at_call 13; refine (write_h HD.out o.at_ B m bc o.b HB.out HX.out.1 HX.out.2.1 HX.out.2.2.1 HX.out.2.2.2.1 HX.out.2.2.2.2).mono ?_; rintro e1 w1 ⟨rfl, hH⟩; (have HH := Aside0.mk hH); clear hH)
        go_ret2
        rw [HE.out.1, HE.out.2]
        exact ⟨_, rfl, HH.out⟩
      · have f2 : (o.k == 2) = false := beq_eq_false_iff_ne.2 q2
        have q3 : o.k = 3 := by omega
        have f3 : (o.k == 3) = true := beq_iff_eq.2 q3
        have HE := Aside0.mk (And.intro (show doesE d o = syncE d from (if_neg q0).trans ((if_neg q1).trans (if_neg q2))) (show doesD d o = syncD d from (if_neg q0).trans ((if_neg q1).trans (if_neg q2))))
        clear q0 q1 q2 q3
        go_wp2_with (go_at_call 10; refine (sync_h HD.out HX.out.2.2.1 HX.out.2.2.2.1 HX.out.2.2.2.2).mono ?_; rintro e1 w1 ⟨rfl, hH⟩; (have HH := Aside0.mk hH); clear hH)
        go_ret2
        rw [HE.out.1, HE.out.2]
        exact ⟨_, rfl, HH.out⟩
end Go.Proofs.Ytcegphnhohpegaa
