/- Slices of writes (a number and bytes): read, made; the walks of 'of' and of pager's ops. -/
import Derived.Test.YthhalmjapiempaaN1
set_option linter.unusedVariables false
set_option linter.unusedSimpArgs false
namespace Go.Proofs.Ythhalmjapiempaa
open Go.RowKit

/-- The cells of writes. -/
def wv (hs : List (Int × Option Addr × Nat × Nat)) : List Value := hs.flatMap fun p => [.int .i64 p.1, .slice p.2.1 p.2.2.1 p.2.2.2]
theorem wv_cons (p : Int × Option Addr × Nat × Nat) (r : List (Int × Option Addr × Nat × Nat)) : wv (p :: r) = .int .i64 p.1 :: .slice p.2.1 p.2.2.1 p.2.2.2 :: wv r := rfl
theorem wv_append (a b : List (Int × Option Addr × Nat × Nat)) : wv (a ++ b) = wv a ++ wv b := by simp [wv]
theorem wv_len (hs : List (Int × Option Addr × Nat × Nat)) : (wv hs).length = hs.length * 2 := by
  induction hs with
  | nil => rfl
  | cons p r ih => rw [wv_cons, List.length_cons, List.length_cons, ih, List.length_cons]; omega
theorem wv_one (hs : List (Int × Option Addr × Nat × Nat)) : ∀ v, v ∈ wv hs → v.oneCell' = true := by
  induction hs with
  | nil => exact fun v h => by cases h
  | cons p r ih =>
    intro v h
    rw [wv_cons] at h
    rcases List.mem_cons.1 h with rfl | h
    · rfl
    · rcases List.mem_cons.1 h with rfl | h
      · rfl
      · exact ih v h
theorem wv_at (hs : List (Int × Option Addr × Nat × Nat)) (j : Nat) (p : Int × Option Addr × Nat × Nat) (h : hs[j]? = some p) : (wv hs)[j * 2]? = some (.int .i64 p.1) ∧ (wv hs)[j * 2 + 1]? = some (.slice p.2.1 p.2.2.1 p.2.2.2) := by
  induction hs generalizing j with
  | nil => cases h
  | cons q r ih =>
    cases j with
    | zero => injection h with h; subst h; exact ⟨rfl, rfl⟩
    | succ j =>
      have := ih j h
      rw [wv_cons, show (j + 1) * 2 = j * 2 + 1 + 1 by omega]
      exact this
/-- Writes that are read: where they lie, and what their bytes are. -/
structure Hs (w0 : World) (R : List (Nat × Obj)) (W : World) (hs : List (Int × Option Addr × Nat × Nat)) (l : List (Int × List UInt8)) : Prop where
  len : hs.length = l.length
  each : ∀ (j : Nat) (p : Int × Option Addr × Nat × Nat), hs[j]? = some p → ∃ q : Int × List UInt8, l[j]? = some q ∧ p.1 = q.1 ∧ Bs W p.2.1 p.2.2.1 p.2.2.2 q.2 ∧ Free w0 R p.2.1 p.2.2.1 ∧ -9223372036854775808 ≤ p.1 ∧ p.1 ≤ 9223372036854775807
theorem Hs.nil (w0 : World) (R : List (Nat × Obj)) (W : World) : Hs w0 R W [] [] := ⟨rfl, fun j p h => by cases h⟩
theorem Hs.append {w0 : World} {R : List (Nat × Obj)} {W : World} {a b : List (Int × Option Addr × Nat × Nat)} {x y : List (Int × List UInt8)} (h : Hs w0 R W a x) (k : Hs w0 R W b y) : Hs w0 R W (a ++ b) (x ++ y) := by
  refine ⟨by rw [List.length_append, List.length_append, h.len, k.len], fun j p hj => ?_⟩
  rcases Nat.lt_or_ge j a.length with q | q
  · rw [List.getElem?_append_left q] at hj
    rw [List.getElem?_append_left (by rw [← h.len]; exact q)]
    exact h.each j p hj
  · rw [List.getElem?_append_right q] at hj
    rw [List.getElem?_append_right (by rw [← h.len]; exact q), ← h.len]
    exact k.each _ p hj
theorem Hs.one {w0 : World} {R : List (Nat × Obj)} {W : World} {i : Int} {A : Option Addr} {n c : Nat} {xs : List UInt8} (hb : Bs W A n c xs) (hf : Free w0 R A n) (hi : -9223372036854775808 ≤ i ∧ i ≤ 9223372036854775807) : Hs w0 R W [(i, A, n, c)] [(i, xs)] := by
  refine ⟨rfl, fun j p hj => ?_⟩
  cases j with
  | zero => injection hj with hj; subst hj; exact ⟨_, rfl, rfl, hb, hf, hi⟩
  | succ j => cases hj
theorem Free.sub {w0 : World} {R R1 : List (Nat × Obj)} {A : Option Addr} {n : Nat} (h : Free w0 R A n) (hs : ∀ p ∈ R, p ∈ R1) : Free w0 R1 A n := fun h0 a e => (h h0 a e).imp id (fun ⟨o, q⟩ => ⟨o, hs _ q⟩)
theorem Hs.up {w0 : World} {R R1 : List (Nat × Obj)} {W : World} {hs : List (Int × Option Addr × Nat × Nat)} {l : List (Int × List UInt8)} (h : Hs w0 R W hs l) (hr : ∀ p ∈ R, p ∈ R1) : Hs w0 R1 W hs l :=
  ⟨h.len, fun j p hj => by obtain ⟨q, a, b, c, d, e⟩ := h.each j p hj; exact ⟨q, a, b, c, d.sub hr, e⟩⟩
theorem Hs.below {w0 : World} {R : List (Nat × Obj)} {W W1 : World} {hs : List (Int × Option Addr × Nat × Nat)} {l : List (Int × List UInt8)} (h : Hs w0 R W hs l) (hB : Below W.heap.size W W1) : Hs w0 R W1 hs l :=
  ⟨h.len, fun j p hj => by obtain ⟨q, a, b, c, d, e⟩ := h.each j p hj; exact ⟨q, a, b, c.below hB, d, e⟩⟩
/-- What is free of the disk stands where it stood. -/
theorem DH.keeps {w0 : World} {g g' : Nat} {R : List (Nat × Obj)} {d1 d2 : DV} {W1 W2 : World} {A : Option Addr} {n c : Nat} {xs : List UInt8} (h1 : DH w0 g R d1 W1) (h2 : DH w0 g' R d2 W2) (hf : Free w0 R A n) (hb : Bs W1 A n c xs) : Bs W2 A n c xs :=
  hb.blk fun a e h0 => by
    rcases hf h0 a e with q | ⟨o, q⟩
    · exact (h2.bel.block _ q).trans (h1.bel.block _ q).symm
    · exact (h2.row q).trans (h1.row q).symm
theorem Hs.same {w0 : World} {g g' : Nat} {R : List (Nat × Obj)} {d1 d2 : DV} {W1 W2 : World} {hs : List (Int × Option Addr × Nat × Nat)} {l : List (Int × List UInt8)} (h : Hs w0 R W1 hs l) (h1 : DH w0 g R d1 W1) (h2 : DH w0 g' R d2 W2) : Hs w0 R W2 hs l :=
  ⟨h.len, fun j p hj => by obtain ⟨q, a, b, c, d, e⟩ := h.each j p hj; exact ⟨q, a, b, h1.keeps h2 d c, d, e⟩⟩
theorem Rc.same2 {w0 : World} {g g' : Nat} {R : List (Nat × Obj)} {d1 d2 : DV} {W1 W2 : World} {k n c : Nat} {A : Option Addr} {xs : List Value} (h : Rc W1 k A n c xs) (hf : Free w0 R A n) (h1 : DH w0 g R d1 W1) (h2 : DH w0 g' R d2 W2) : Rc W2 k A n c xs :=
  ⟨h.len, h.le, h.cap, h.lim, h.one, fun h0 => by
    obtain ⟨ad, e, hx⟩ := h.cells h0
    refine ⟨ad, e, fun j u hu => ?_⟩
    rw [← hx j u hu]
    refine World.cell?_of_block ?_
    rw [add_block]
    rcases hf h0 ad e with q | ⟨o, q⟩
    · exact (h2.bel.block _ q).trans (h1.bel.block _ q).symm
    · exact (h2.row q).trans (h1.row q).symm⟩
theorem Rc.two {w : World} {A : Option Addr} {n c : Nat} {hs : List (Int × Option Addr × Nat × Nat)} (h : Rc w 2 A n c (wv hs)) (hl : hs.length = n) (j : Nat) (hj : j < n) :
    ∃ ad p, A = some ad ∧ hs[j]? = some p ∧ w.cell? (ad.add (j * 2)) = some (.int .i64 p.1) ∧ w.cell? ⟨(ad.add (j * 2)).block, (ad.add (j * 2)).off + 1, none⟩ = some (.slice p.2.1 p.2.2.1 p.2.2.2) := by
  obtain ⟨ad, e, hx⟩ := h.cells (by omega)
  have hp : hs[j]? = some hs[j] := List.getElem?_eq_getElem (by omega)
  obtain ⟨k1, k2⟩ := wv_at hs j _ hp
  refine ⟨ad, _, e, hp, hx _ _ k1, ?_⟩
  have := hx _ _ k2
  rw [← add_add] at this
  obtain ⟨b, o, s⟩ := ad
  simpa [Addr.add] using this
def zW : Value := .agg #[.int .i64 0, .slice none 0 0]
theorem infoW : (Try.prog.info? 65).map (fun i => (i.zero, i.size, i.bytes)) = some (some zW, 2, 32) := by kernel_rfl
theorem infoO : (Try.prog.info? 92).map (fun i => (i.zero, i.size, i.bytes)) = some (some zW, 2, 32) := by kernel_rfl
theorem Oc.of_grw {base k n c : Nat} {T : TypeId} {A : Option Addr} {xs : List Value} {W w1 : World} (h : Aside0 (Oc w1 base T k A n c xs)) : Oc w1 base T k A n c xs := h.out
set_option maxHeartbeats 4000000 in
set_option maxRecDepth 100000 in
theorem wof_any (A : Option Addr) (n c : Nat) (hs : List (Int × Option Addr × Nat × Nat)) (w : World) (h : Rc w 2 A n c (wv hs)) (hl : hs.length = n) :
    Calls Try.prog 15 #[.slice A n c] w fun e w' => ∃ A1 c1, e = .returned (.slice A1 n c1) ∧ Oc w' w.heap.size 65 2 A1 n c1 (wv hs) ∧ Below w.heap.size w w' := by
  have hlim := h.lim
  have HR := Aside0.mk h
  have HL := Aside0.mk hl
  clear h hl
  go_enter Try.func15, Try.ntmps15
  go_wp2_with fail
  go_loopg [3, 8] n (fun gk v3 v8 wr => ∃ (j : Nat) (A1 : Option Addr) (c1 : Nat), Aside (gk + j = n) ∧ v8 = .int .i64 (j : Int) ∧ v3 = .slice A1 j c1 ∧ Aside0 (Oc wr w.heap.size 65 2 A1 j c1 (wv (hs.take j)) ∧ Below w.heap.size w wr))
  case atStart => exact ⟨0, none, 0, rfl, rfl, rfl, ⟨Oc.nil _ _ _ _, Below.refl _ _⟩⟩
  case round =>
    obtain ⟨j, A1, cc, hk, rfl, rfl, hI⟩ := hrel
    have hjm : j ≤ n := by have := hk.out; omega
    rcases Nat.lt_or_ge j n with hlt | hge
    · have d1 : decide ((j : Int) < (n : Int)) = true := decide_eq_true (by omega)
      have hjn : (j : Int) < (n : Int) := by omega
      obtain ⟨ad, p, rfl, hp, c0, c1⟩ := (HR.out.below hI.out.2).two HL.out j hlt
      have HP := Aside0.mk hp
      have HB0 := Aside0.mk ((Below.refl _ wr).alloc (Nat.le_refl _) (.cells #[.int .i64 p.1, .slice p.2.1 p.2.2.1 p.2.2.2] 64))
      clear hp
      go_upto_region 5 with fail
      obtain ⟨W1, hW1⟩ : ∃ X, wr.alloc (.cells #[.int .i64 p.1, .slice p.2.1 p.2.2.1 p.2.2.2] 64) = X := ⟨_, rfl⟩
      have hrow := heap_alloc_new wr (.cells #[.int .i64 p.1, .slice p.2.1 p.2.2.1 p.2.2.2] 64)
      rw [hW1] at HB0 hrow ⊢
      have b0 : W1.cell? ⟨wr.heap.size, 0, none⟩ = some (.int .i64 p.1) := by rw [cell_of_row _ _ _ _ _ _ hrow]; rfl
      have b1 : W1.cell? ⟨wr.heap.size, 1, none⟩ = some (.slice p.2.1 p.2.2.1 p.2.2.2) := by rw [cell_of_row _ _ _ _ _ _ hrow]; rfl
      have HO1 := Aside0.mk (hI.out.1.below HB0.out)
      have HB1 := Aside0.mk (below_then hI.out.2 hI.out.2.size HB0.out)
      obtain ⟨N, hN⟩ : ∃ N, wr.heap.size = N := ⟨_, rfl⟩
      rw [hN] at b0 b1 ⊢
      clear hW1 hrow c0 c1 hN
      go_wp2_with (at_builtin; refine wpl_oc w.heap.size rfl _ _ 34 65 zW 2 32 rfl Try.underlying34 infoW rfl (by omega) (by omega) (by omega) A1 j _ W1.heap.size (wv (hs.take j)) [.int .i64 p.1, .slice p.2.1 p.2.2.1 p.2.2.2] rfl rfl (HO1.out.below ((Below.refl _ W1).alloc (Nat.le_refl _) _)) rfl (lit_range W1 _ _ _ rfl) (wv_one [p]) (by have := HB1.out.size; simp; omega) (by omega) ?_; intro A2 c2 w1 hO hG hA)
      go_roundg (n - (j + 1))
      case measure => have := hk.out; omega
      case rel =>
        refine ⟨j + 1, A2, c2, (by show n - (j + 1) + (j + 1) = n; omega), by go_num, rfl, ⟨?_, ?_⟩⟩
        · have := hO.out
          rw [List.take_add_one, HP.out, wv_append]
          exact this
        · refine hG.out.below HB1.out (fun k q => HO1.out.lo k q) HB1.out.size
    · obtain rfl : n = j := by omega
      have d1 : decide ((n : Int) < (n : Int)) = false := by simp
      have h9 := hI.out.1
      rw [List.take_of_length_le (by have := HL.out; omega)] at h9
      have H9 := Aside0.mk h9
      clear h9
      go_wp2_with fail
      go_ret
      exact ⟨A1, cc, rfl, H9.out, hI.out.2⟩
set_option maxHeartbeats 4000000 in
set_option maxRecDepth 100000 in
theorem pops_any (A : Option Addr) (n c : Nat) (hs : List (Int × Option Addr × Nat × Nat)) (w : World) (h : Rc w 2 A n c (wv hs)) (hl : hs.length = n) :
    Calls Try.prog 46 #[.slice A n c] w fun e w' => ∃ A1 c1, e = .returned (.slice A1 n c1) ∧ Oc w' w.heap.size 92 2 A1 n c1 (wv hs) ∧ Below w.heap.size w w' := by
  have hlim := h.lim
  have HR := Aside0.mk h
  have HL := Aside0.mk hl
  clear h hl
  go_enter Try.func46, Try.ntmps46
  go_wp2_with fail
  go_loopg [3, 8] n (fun gk v3 v8 wr => ∃ (j : Nat) (A1 : Option Addr) (c1 : Nat), Aside (gk + j = n) ∧ v8 = .int .i64 (j : Int) ∧ v3 = .slice A1 j c1 ∧ Aside0 (Oc wr w.heap.size 92 2 A1 j c1 (wv (hs.take j)) ∧ Below w.heap.size w wr))
  case atStart => exact ⟨0, none, 0, rfl, rfl, rfl, ⟨Oc.nil _ _ _ _, Below.refl _ _⟩⟩
  case round =>
    obtain ⟨j, A1, cc, hk, rfl, rfl, hI⟩ := hrel
    have hjm : j ≤ n := by have := hk.out; omega
    rcases Nat.lt_or_ge j n with hlt | hge
    · have d1 : decide ((j : Int) < (n : Int)) = true := decide_eq_true (by omega)
      have hjn : (j : Int) < (n : Int) := by omega
      obtain ⟨ad, p, rfl, hp, c0, c1⟩ := (HR.out.below hI.out.2).two HL.out j hlt
      have HP := Aside0.mk hp
      have HB0 := Aside0.mk ((Below.refl _ wr).alloc (Nat.le_refl _) (.cells #[.int .i64 p.1, .slice p.2.1 p.2.2.1 p.2.2.2] 65))
      clear hp
      go_upto_region 5 with fail
      obtain ⟨W1, hW1⟩ : ∃ X, wr.alloc (.cells #[.int .i64 p.1, .slice p.2.1 p.2.2.1 p.2.2.2] 65) = X := ⟨_, rfl⟩
      have hrow := heap_alloc_new wr (.cells #[.int .i64 p.1, .slice p.2.1 p.2.2.1 p.2.2.2] 65)
      rw [hW1] at HB0 hrow ⊢
      have b0 : W1.cell? ⟨wr.heap.size, 0, none⟩ = some (.int .i64 p.1) := by rw [cell_of_row _ _ _ _ _ _ hrow]; rfl
      have b1 : W1.cell? ⟨wr.heap.size, 1, none⟩ = some (.slice p.2.1 p.2.2.1 p.2.2.2) := by rw [cell_of_row _ _ _ _ _ _ hrow]; rfl
      have HO1 := Aside0.mk (hI.out.1.below HB0.out)
      have HB1 := Aside0.mk (below_then hI.out.2 hI.out.2.size HB0.out)
      obtain ⟨N, hN⟩ : ∃ N, wr.heap.size = N := ⟨_, rfl⟩
      rw [hN] at b0 b1 ⊢
      clear hW1 hrow c0 c1 hN
      go_wp2_with (at_builtin; refine wpl_oc w.heap.size rfl _ _ 93 92 zW 2 32 rfl Try.underlying93 infoO rfl (by omega) (by omega) (by omega) A1 j _ W1.heap.size (wv (hs.take j)) [.int .i64 p.1, .slice p.2.1 p.2.2.1 p.2.2.2] rfl rfl (HO1.out.below ((Below.refl _ W1).alloc (Nat.le_refl _) _)) rfl (lit_range W1 _ _ _ rfl) (wv_one [p]) (by have := HB1.out.size; simp; omega) (by omega) ?_; intro A2 c2 w1 hO hG hA)
      go_roundg (n - (j + 1))
      case measure => have := hk.out; omega
      case rel =>
        refine ⟨j + 1, A2, c2, (by show n - (j + 1) + (j + 1) = n; omega), by go_num, rfl, ⟨?_, ?_⟩⟩
        · have := hO.out
          rw [List.take_add_one, HP.out, wv_append]
          exact this
        · refine hG.out.below HB1.out (fun k q => HO1.out.lo k q) HB1.out.size
    · obtain rfl : n = j := by omega
      have d1 : decide ((n : Int) < (n : Int)) = false := by simp
      have h9 := hI.out.1
      rw [List.take_of_length_le (by have := HL.out; omega)] at h9
      have H9 := Aside0.mk h9
      clear h9
      go_wp2_with fail
      go_ret
      exact ⟨A1, cc, rfl, H9.out, hI.out.2⟩
end Go.Proofs.Ythhalmjapiempaa
