/- over's extent of pages. -/
import Derived.Test.YtbjfklgmbeaaoaaWC
import Derived.Test.YtbjfklgmbeaaoaaWD
import Derived.Laws.CopyOwn
import Derived.Lib.SliceRun
set_option linter.unusedVariables false
set_option linter.unusedSimpArgs false
namespace Go.Proofs.Ytbjfklgmbeaaoaa
open Go.RowKit Go.Shelf
attribute [local go_sem] Oper.semAt_some

theorem sum4_mid (xs : List UInt8) (a : Nat) (s : Int) (h : a + 4 ≤ xs.length) : ((sum4 xs a s).drop a).take 4 = [byt8 s, byt8 (s / 256), byt8 (s / 65536), byt8 (s / 16777216)] := by
  apply List.ext_getElem?
  intro i
  unfold sum4
  rcases (show i = 0 ∨ i = 1 ∨ i = 2 ∨ i = 3 ∨ 4 ≤ i by omega) with rfl | rfl | rfl | rfl | hi
  · simp [List.getElem?_take, List.getElem?_drop, List.getElem?_set]; omega
  · simp [List.getElem?_take, List.getElem?_drop, List.getElem?_set]; omega
  · simp [List.getElem?_take, List.getElem?_drop, List.getElem?_set]; omega
  · simp [List.getElem?_take, List.getElem?_drop, List.getElem?_set]; omega
  · rw [List.getElem?_eq_none (by simp; omega), List.getElem?_eq_none (by simp; omega)]
theorem sum4_form (xs : List UInt8) (a : Nat) (s : Int) (h : a + 4 ≤ xs.length) : sum4 xs a s = xs.take a ++ ([byt8 s, byt8 (s / 256), byt8 (s / 65536), byt8 (s / 16777216)] ++ xs.drop (a + 4)) := by
  rw [← List.take_append_drop a (sum4 xs a s), sum4_take, ← List.take_append_drop 4 ((sum4 xs a s).drop a), sum4_mid xs a s h, List.drop_drop, sum4_drop]
theorem sum4_length9 (xs : List UInt8) (a : Nat) (s : Int) : (sum4 xs a s).length = xs.length := by simp [sum4]
/-- A sum at 4 hangs on the other bytes alone. -/
theorem seal4_eq {xs P : List UInt8} (h1 : xs.take 4 = P.take 4) (h2 : xs.drop 8 = P.drop 8) (hx : 8 ≤ xs.length) (hp : 8 ≤ P.length) : sealB xs 4 = sealB P 4 := by
  have e : ∀ z : List UInt8, 8 ≤ z.length → sealB z 4 = sum4 z 4 (othI z 4) := fun z hz => by unfold sealB; rw [if_pos ⟨by omega, by omega⟩]; rfl
  rw [e xs hx, e P hp, sum4_form xs 4 _ (by omega), sum4_form P 4 _ (by omega)]
  unfold othI
  rw [h1, h2]
/-- The head of an extent, wrapped alone. -/
theorem exW {n m : Int} (hn : 0 ≤ n ∧ n ≤ 65535) (hm : 0 ≤ m ∧ m ≤ 9223372036854775807) : ∃ S T : List UInt8, S.length = 4 ∧ T.length = 240 ∧ wrB 79 3 n m [] = (two8 79 3 ++ le8 n 2 ++ S) ++ (le8 m 8 ++ T) := by
  have hE : rwE 79 3 n m ([] : List UInt8).length = 0 := by
    unfold rwE
    rw [if_pos (by decide), if_neg]
    unfold rwBad
    have : cpI 3 = 240 := rfl
    simp only [List.length_nil]
    omega
  obtain ⟨S, _, _, _, _, hS, e, _, _⟩ := rwB_form hm.2 hE
  rw [if_pos (by omega)] at hS
  refine ⟨S, [] ++ List.replicate ((cpI 3).toNat - ([] : List UInt8).length) 0, hS, by rw [List.nil_append, List.length_replicate]; rfl, ?_⟩
  rw [wrB_eq hm.2, e]
  rfl
theorem exW_len {n m : Int} (hn : 0 ≤ n ∧ n ≤ 65535) (hm : 0 ≤ m ∧ m ≤ 9223372036854775807) : (wrB 79 3 n m []).length = 256 := by
  obtain ⟨S, T, hS, hT, e⟩ := exW hn hm
  rw [e]
  simp [two8, le8_length, hS, hT]
/-- What extent lays, sealed. -/
theorem exA_of {v : List UInt8} {n : Nat} (hn : n ≤ 65535) (hv : v.length ≤ 100000) (hl : 16 + v.length ≤ 256 * n) :
    sealB (sum4 (putL (putL (List.replicate (256 * n) 0) ((wrB 79 3 (n : Int) (v.length : Int) []).take 16) 0) v 16) 4 0) 4 = exA v n := by
  obtain ⟨S, T, hS, hT, e⟩ := exW (n := (n : Int)) (m := (v.length : Int)) (by omega) (by omega)
  have hP : two8 79 3 ++ le8 (n : Int) 2 = (two8 79 3 ++ le8 (n : Int) 2) := rfl
  have hPl : (two8 79 3 ++ le8 (n : Int) 2).length = 4 := by simp [two8, le8_length]
  have hQl : (le8 (v.length : Int) 8).length = 8 := le8_length _ _
  obtain ⟨P, hPe⟩ : ∃ P, two8 79 3 ++ le8 (n : Int) 2 = P := ⟨_, rfl⟩
  obtain ⟨Q, hQe⟩ : ∃ Q, le8 (v.length : Int) 8 = Q := ⟨_, rfl⟩
  have hx0 : exP0 v n = ((P ++ le8 0 4) ++ Q ++ v) ++ List.replicate (256 * n - (16 + v.length)) 0 := by
    unfold exP0 rwHd
    rw [if_pos (by omega), ← hPe, ← hQe]
    rfl
  rw [hPe] at e hPl
  rw [hQe] at e hQl
  have ht : (wrB 79 3 (n : Int) (v.length : Int) []).take 16 = (P ++ S) ++ Q := by
    rw [e, ← List.append_assoc]
    exact List.take_left' (by rw [List.length_append, List.length_append, hPl, hS, hQl])
  have h16 : ((P ++ S) ++ Q).length = 16 := by rw [List.length_append, List.length_append, hPl, hS, hQl]
  have hL1 : putL (List.replicate (256 * n) 0) ((P ++ S) ++ Q) 0 = ((P ++ S) ++ Q) ++ List.replicate (256 * n - 16) 0 := by
    unfold putL
    rw [List.take_zero, List.nil_append, Nat.zero_add, h16, List.drop_replicate]
  have hL2 : putL (((P ++ S) ++ Q) ++ List.replicate (256 * n - 16) 0) v 16 = (((P ++ S) ++ Q) ++ v) ++ List.replicate (256 * n - (16 + v.length)) 0 := by
    unfold putL
    rw [List.take_left' h16, ← List.drop_drop, List.drop_left' h16, List.drop_replicate, show 256 * n - 16 - v.length = 256 * n - (16 + v.length) by omega, ← List.append_assoc]
  rw [ht, hL1, hL2]
  unfold exA
  have hlen : ((((P ++ S) ++ Q) ++ v) ++ List.replicate (256 * n - (16 + v.length)) (0 : UInt8)).length = 256 * n := by
    rw [List.length_append, List.length_append, h16, List.length_replicate]
    omega
  refine seal4_eq ?_ ?_ (by rw [sum4_length9, hlen]; omega) (by rw [exP0_len hl]; omega)
  · rw [sum4_take, hx0, List.append_assoc, List.append_assoc, List.append_assoc, List.take_left' hPl, List.append_assoc, List.append_assoc, List.append_assoc, List.take_left' hPl]
  · have h8 : (P ++ S).length = 8 := by rw [List.length_append, hPl, hS]
    have h8' : (P ++ le8 0 4).length = 8 := by rw [List.length_append, hPl, le8_length]
    rw [show (8 : Nat) = 4 + 4 from rfl, sum4_drop, hx0, show (4 + 4 : Nat) = 8 from rfl, List.append_assoc (P ++ S), List.append_assoc (P ++ S), List.drop_left' h8, List.append_assoc (P ++ le8 0 4), List.append_assoc (P ++ le8 0 4), List.drop_left' h8']
/-- copy into a slice of one's own bytes, inside a fence. -/
theorem wplIn_cp8 {F : Fence} {k : Nat} {W : World} {ops : Array Oper} {rest : List Oper} {o : Oper} {a : Act} {Q : Exit → Act → World → Prop} (base : Nat) (hgd : o.guard = none) (d s : Operand)
    (ho : o.op = .call { callee := .builtin .copy, args := #[d, s], argTypes := #[27, 27] })
    (g off n c dLen dCap : Nat) (xs ys : List UInt8) (B : Option Addr) (sLen sCap : Nat) (hd : a.eval d = .slice (some ⟨g, off, none⟩) dLen dCap) (hs : a.eval s = .slice B sLen sCap)
    (HO : Ow W base (some ⟨g, 0, none⟩) n c xs) (HY : Bs W B sLen sCap ys) (h0 : 0 < sLen) (h1 : sLen ≤ dLen) (h2 : off + sLen ≤ n)
    (h : ∀ w1, Aside0 (Ow w1 base (some ⟨g, 0, none⟩) n c (putL xs ys off) ∧ OnlyB g W w1) → wpListIn F k Try.prog ops Q rest (a.put o.dst (.int .i64 (sLen : Int))) w1) :
    wpListIn F k Try.prog ops Q (o :: rest) a W := by
  refine wpListIn_plain hgd fun K hK => ?_
  have hyl := HY.len
  obtain ⟨cur, hcur, hfit, hOw⟩ := HO.splice (a := off) (ys := ys) (by omega)
  obtain ⟨ad, rfl, hcell⟩ := HY.cells h0
  have hrun := run_copy_row (P := Try.prog) W 27 27 o.type 5 g off dLen dCap ad sLen sCap cur 5 (u8v ys) Try.underlying27 size1 hcur (by rw [u8v_length, hyl]; exact (Nat.min_eq_left h1).symm) (fun j v hj => by
    have hjl : j < ys.length := by
      rcases Nat.lt_or_ge j ys.length with q | q
      · exact q
      · rw [List.getElem?_eq_none (by rw [u8v_length]; exact q)] at hj; cases hj
    rw [u8v_get ys j hjl] at hj
    injection hj with hj
    subst hj
    exact hcell j (by omega)) (by rw [u8v_length]; exact hfit) (u8v_one ys)
  rw [u8v_length, hyl] at hrun
  have h9 := h _ ⟨hOw, ⟨rfl, rfl, rfl, by simp, fun i _ hi => setRow_other _ _ _ _ hi⟩⟩
  rw [u8v_length, hyl] at h9
  unfold Oper.wpIn
  refine ⟨?_, ?_⟩
  · simp [Oper.about, ho, resolve, Target.leads, Sem.run_pure]
  · rw [Oper.semAt_plain F _ _ (by rw [ho]; intro c hc'; cases hc')]
    simp [execOp, ho, resolve, invoke, builtin, hd, hs, hrun, Result.andThen]
    exact hK _ _ h9
/-- clear of four bytes. -/
theorem clear4 {W : World} {base g n c : Nat} {xs : List UInt8} (h : Ow W base (some ⟨g, 0, none⟩) n c xs) (hn : 8 ≤ n) (ty : TypeId) (c2 : Nat) :
    (Builtin.clear_ #[27] ty #[.slice (some ⟨g, 4, none⟩) 4 c2]).run Try.prog W = .ok (.tuple #[]) ((((W.setCell ⟨g, 4, none⟩ (.int .u8 0)).setCell ⟨g, 5, none⟩ (.int .u8 0)).setCell ⟨g, 6, none⟩ (.int .u8 0)).setCell ⟨g, 7, none⟩ (.int .u8 0)) := by
  have hf : ∀ j, W.frozen? ⟨g, j, none⟩ = false := by
    obtain ⟨g', e, _, _, hf⟩ := h.head (by omega)
    injection e with e
    injection e with e
    subst e
    exact hf
  have hc : ∀ j, j < 4 → (W.cell? ⟨g, 4 + j, none⟩).isSome = true := fun j hj => by
    obtain ⟨ad, e, k⟩ := h.bs.atN (4 + j) (by omega)
    injection e with e
    subst e
    rw [add_plain] at k
    rw [k]
    rfl
  exact Lib.run_clear_slice W 27 5 ty (.int .u8 0) Try.underlying27 Try.zeroValue5 rfl rfl g 4 4 c2 (by omega) hc (fun j _ => hf _)
theorem Ow.cleared {W : World} {base g n c : Nat} {xs : List UInt8} (h : Ow W base (some ⟨g, 0, none⟩) n c xs) :
    Ow ((((W.setCell ⟨g, 4, none⟩ (.int .u8 0)).setCell ⟨g, 5, none⟩ (.int .u8 0)).setCell ⟨g, 6, none⟩ (.int .u8 0)).setCell ⟨g, 7, none⟩ (.int .u8 0)) base (some ⟨g, 0, none⟩) n c (sum4 xs 4 0) ∧
    OnlyB g W ((((W.setCell ⟨g, 4, none⟩ (.int .u8 0)).setCell ⟨g, 5, none⟩ (.int .u8 0)).setCell ⟨g, 6, none⟩ (.int .u8 0)).setCell ⟨g, 7, none⟩ (.int .u8 0)) :=
  ⟨((((h.store 4 0).store 5 0).store 6 0).store 7 0), ((((OnlyB.refl g W).set 4 _).set 5 _).set 6 _).set 7 _⟩
end Go.Proofs.Ytbjfklgmbeaaoaa
