/- The plain law of metas: what both ways of writing one agree on, and what is read of it. -/
import Derived.Test.YthhalmjapiempaaZ9
import Derived.Test.YthhalmjapiempaaZ1
import Derived.Test.YthhalmjapiempaaZ5
set_option linter.unusedVariables false
set_option linter.unusedSimpArgs false
namespace Go.Proofs.Ythhalmjapiempaa
open Go.RowKit

theorem le8_cons (n : Int) (k : Nat) : le8 n (k + 1) = UInt8.ofNat (n % 256).toNat :: le8 (n / 256) k := by
  induction k with
  | zero => simp [le8]
  | succ k ih =>
    have e : n / 256 / 256 ^ k = n / 256 ^ (k + 1) := by
      rw [Int.pow_succ, Int.mul_comm, Int.ediv_ediv_of_nonneg (by decide)]
    rw [le8, ih, List.cons_append]
    show _ :: (le8 (n / 256) k ++ [UInt8.ofNat (n / 256 ^ (k + 1) % 256).toNat]) = _ :: (le8 (n / 256) k ++ [UInt8.ofNat (n / 256 / 256 ^ k % 256).toNat])
    rw [e]
theorem le8_leN (ys : List UInt8) : le8 (leN ys : Int) ys.length = ys := by
  induction ys with
  | nil => rfl
  | cons x t ih =>
    rw [List.length_cons, le8_cons]
    have h1 : ((leN (x :: t) : Nat) : Int) % 256 = (x.toNat : Int) := by have := x.toNat_lt; simp only [leN]; omega
    have h2 : ((leN (x :: t) : Nat) : Int) / 256 = (leN t : Int) := by have := x.toNat_lt; simp only [leN]; omega
    rw [h1, h2, ih, Int.toNat_natCast, UInt8.ofNat_toNat]
theorem sum4_take (xs : List UInt8) (a : Nat) (s : Int) : (sum4 xs a s).take a = xs.take a := by
  unfold sum4
  rw [List.take_set_of_le (by omega), List.take_set_of_le (by omega), List.take_set_of_le (by omega), List.take_set_of_le (by omega)]
theorem sum4_drop (xs : List UInt8) (a : Nat) (s : Int) : (sum4 xs a s).drop (a + 4) = xs.drop (a + 4) := by
  unfold sum4
  rw [List.drop_set_of_lt (by omega), List.drop_set_of_lt (by omega), List.drop_set_of_lt (by omega), List.drop_set_of_lt (by omega)]
theorem sum4_mid (xs : List UInt8) (a : Nat) (s : Int) (h : a + 4 ≤ xs.length) : ((sum4 xs a s).drop a).take 4 = [byt8 s, byt8 (s / 256), byt8 (s / 65536), byt8 (s / 16777216)] := by
  apply List.ext_getElem?
  intro i
  unfold sum4
  rcases (show i = 0 ∨ i = 1 ∨ i = 2 ∨ i = 3 ∨ 4 ≤ i by omega) with rfl | rfl | rfl | rfl | hi
  · simp [List.getElem?_take, List.getElem?_drop, List.getElem?_set]; omega
  · simp [List.getElem?_take, List.getElem?_drop, List.getElem?_set]; omega
  · simp [List.getElem?_take, List.getElem?_drop, List.getElem?_set]; omega
  · simp [List.getElem?_take, List.getElem?_drop, List.getElem?_set]; omega
  · rw [List.getElem?_eq_none (by simp; omega), List.getElem?_eq_none (by simp; omega)]
theorem sum4_form (xs : List UInt8) (a : Nat) (s : Int) (h : a + 4 ≤ xs.length) : sum4 xs a s = xs.take a ++ ([byt8 s, byt8 (s / 256), byt8 (s / 65536), byt8 (s / 16777216)] ++ xs.drop (a + 4)) := by
  rw [← List.take_append_drop a (sum4 xs a s), sum4_take, ← List.take_append_drop 4 ((sum4 xs a s).drop a), sum4_mid xs a s h, List.drop_drop, sum4_drop]
/-- A seal at 252 of 256 bytes hangs on the first 252. -/
theorem seal_form (xs : List UInt8) (h : xs.length = 256) : ∃ s4 : List UInt8, s4.length = 4 ∧ sealB xs 252 = xs.take 252 ++ s4 ∧ ∀ ys : List UInt8, ys.length = 256 → ys.take 252 = xs.take 252 → sealB ys 252 = xs.take 252 ++ s4 := by
  refine ⟨[byt8 (updI 0 (xs.take 252)), byt8 (updI 0 (xs.take 252) / 256), byt8 (updI 0 (xs.take 252) / 65536), byt8 (updI 0 (xs.take 252) / 16777216)], rfl, ?_⟩
  have key : ∀ ys : List UInt8, ys.length = 256 → ys.take 252 = xs.take 252 → sealB ys 252 = xs.take 252 ++ [byt8 (updI 0 (xs.take 252)), byt8 (updI 0 (xs.take 252) / 256), byt8 (updI 0 (xs.take 252) / 65536), byt8 (updI 0 (xs.take 252) / 16777216)] := by
    intro ys hy e
    unfold sealB
    rw [if_pos ⟨by omega, by omega⟩, show ((252 : Int).toNat) = 252 from rfl, sum4_form ys 252 _ (by omega)]
    unfold othI
    rw [show ys.drop (252 + 4) = [] from List.drop_of_length_le (by omega), e, List.append_nil, updI_append, List.append_nil]
  exact ⟨key xs h rfl, key⟩

/-- A writer of 256 bytes behind so many. -/
def sbS (L : List UInt8) : WS := ⟨L.length, false, putL (List.replicate 256 0) L 0⟩
theorem sbS_len (L : List UInt8) (h : L.length ≤ 256) : (sbS L).xs.length = 256 := by
  unfold sbS
  dsimp only
  rw [putL_length _ _ _ (by rw [List.length_replicate]; omega), List.length_replicate]
theorem sb_add (L ys : List UInt8) (h : L.length + ys.length ≤ 256) : (⟨(sbS L).at_ + ys.length, false, putL (sbS L).xs ys (sbS L).at_⟩ : WS) = sbS (L ++ ys) := by
  unfold sbS
  dsimp only
  rw [putL_two _ _ _ (by rw [List.length_replicate]; exact h), List.length_append]
theorem sb_put (L : List UInt8) (n wd : Int) (hf : fitsB n wd = true) (h : L.length + wd.toNat ≤ 256) : putS (sbS L) n wd = sbS (L ++ le8 n wd.toNat) := by
  rw [← sb_add L _ (by rw [le8_length]; exact h), le8_length]
  unfold putS
  exact if_pos ⟨hf, rfl, by rw [sbS_len L (by omega)]; exact h⟩
theorem sb_bytes (L ys : List UInt8) (h : L.length + ys.length ≤ 256) : bytesS (sbS L) ys = sbS (L ++ ys) := by
  rw [← sb_add L ys h]
  unfold bytesS
  refine if_pos (decide_eq_true ⟨rfl, by omega, ?_⟩)
  rw [sbS_len L (by omega)]
  show (ys.length : Int) ≤ ((256 : Nat) : Int) - ((L.length : Nat) : Int)
  omega
theorem sb_skip (L : List UInt8) (m : Nat) (h : L.length + m ≤ 256) : skipS (sbS L) (m : Int) = sbS (L ++ List.replicate m 0) := by
  have hr : roomB (sbS L).xs.length (sbS L).at_ (sbS L).sp (m : Int) = true := by
    refine decide_eq_true ⟨rfl, by omega, ?_⟩
    rw [sbS_len L (by omega)]
    show (m : Int) ≤ ((256 : Nat) : Int) - ((L.length : Nat) : Int)
    omega
  unfold skipS skA
  rw [if_pos hr, hr]
  unfold sbS putL
  simp only [List.take_zero, List.nil_append, Nat.zero_add, List.length_append, List.length_replicate, List.drop_replicate, List.append_assoc, List.replicate_append_replicate, Bool.not_true, Int.toNat_natCast]
  congr 3
  omega
theorem w_cases {g : Int} (h : 1 ≤ g ∧ g ≤ 3) : iwI g = 4 ∨ iwI g = 8 := by
  rcases (show g = 1 ∨ g = 2 ∨ g = 3 by omega) with h | h | h <;> rw [h] <;> decide
theorem fits_one {n : Int} (h0 : 0 ≤ n) (h1 : n ≤ 255) : fitsB n 1 = true := decide_eq_true ⟨by decide, by decide, h0, by show n < 256 ^ (1 : Nat); omega⟩
theorem fits_w {n w : Int} (hw : w = 4 ∨ w = 8) (h0 : 0 ≤ n) (h1 : n ≤ 2147483647) : fitsB n w = true := by
  rcases hw with rfl | rfl
  · exact decide_eq_true ⟨by decide, by decide, h0, by show n < 256 ^ (4 : Nat); omega⟩
  · exact decide_eq_true ⟨by decide, by decide, h0, by show n < 256 ^ (8 : Nat); omega⟩
theorem bodyL_len (ge ph tg tx rt pg li : Int) (xs : List UInt8) : (bodyL ge ph tg tx rt pg li xs).length = 8 + 4 * (iwI ge).toNat + xs.length := by
  simp only [bodyL, List.length_append, hdrL_len, le8_length]
  omega
theorem encW_form {ge ph tg tx rt pg li : Int} {xs : List UInt8} (h : mrightB ge ph tg tx rt pg li xs.length = true) :
    encW ge ph tg tx rt pg li xs = sbS ((bodyL ge ph tg tx rt pg li xs ++ List.replicate (248 - (bodyL ge ph tg tx rt pg li xs).length) 0) ++ tailL) := by
  obtain ⟨g1, g2, p1, p2, t1, t2, x1, x2, r1, r2, n1, n2, l1, l2, c1⟩ := right_bounds h
  have hw := w_cases ⟨g1, g2⟩
  have hw8 : (iwI ge).toNat ≤ 8 := by rcases hw with h | h <;> rw [h] <;> decide
  have hl := bodyL_len ge ph tg tx rt pg li xs
  have e0 : encW0 = sbS magicL := by
    unfold encW0
    rw [show (⟨0, false, List.replicate 256 0⟩ : WS) = sbS [] from by unfold sbS; rw [putL_nil]; rfl, sb_bytes [] magicL (by decide), List.nil_append]
  have e1 : putS (hdS encW0 ge ph tg 3) (xs.length : Int) 1 = sbS (hdrL ge ph tg xs.length) := by
    show putS (putS (putS (putS encW0 ge 1) ph 1) tg 1) (xs.length : Int) 1 = _
    rw [e0, sb_put _ _ _ (fits_one (by omega) (by omega)) (by simp [magicL]), sb_put _ _ _ (fits_one (by omega) (by omega)) (by simp [magicL, le8_length]), sb_put _ _ _ (fits_one (by omega) (by omega)) (by simp [magicL, le8_length]), sb_put _ _ _ (fits_one (by omega) (by omega)) (by simp [magicL, le8_length])]
    unfold hdrL
    simp only [List.append_assoc]
    rfl
  have e2 : encW1 ge ph tg tx rt pg li xs = sbS (bodyL ge ph tg tx rt pg li xs) := by
    unfold encW1
    rw [e1]
    show bytesS (putS (putS (putS (putS (sbS (hdrL ge ph tg xs.length)) tx (iwI ge)) rt (iwI ge)) pg (iwI ge)) li (iwI ge)) xs = _
    rw [sb_put _ _ _ (fits_w hw (by omega) (by omega)) (by rw [hdrL_len]; omega), sb_put _ _ _ (fits_w hw (by omega) (by omega)) (by rw [List.length_append, hdrL_len, le8_length]; omega), sb_put _ _ _ (fits_w hw (by omega) (by omega)) (by rw [List.length_append, List.length_append, hdrL_len, le8_length, le8_length]; omega), sb_put _ _ _ (fits_w hw (by omega) (by omega)) (by rw [List.length_append, List.length_append, List.length_append, hdrL_len, le8_length, le8_length, le8_length]; omega),
      sb_bytes _ _ (by rw [List.length_append, List.length_append, List.length_append, List.length_append, hdrL_len, le8_length, le8_length, le8_length, le8_length]; omega)]
    rfl
  unfold encW
  rw [e2, show (248 : Int) - (((sbS (bodyL ge ph tg tx rt pg li xs)).at_ : Nat) : Int) = ((248 - (bodyL ge ph tg tx rt pg li xs).length : Nat) : Int) from by show (248 : Int) - (((bodyL ge ph tg tx rt pg li xs).length : Nat) : Int) = _; omega,
    sb_skip _ _ (by omega), sb_bytes _ _ (by rw [List.length_append, List.length_replicate]; simp only [tailL, List.length_cons, List.length_nil]; omega)]
def fullL (ge ph tg tx rt pg li : Int) (xs : List UInt8) : List UInt8 := bodyL ge ph tg tx rt pg li xs ++ (List.replicate (248 - (bodyL ge ph tg tx rt pg li xs).length) 0 ++ tailL)
theorem fullL_len {ge ph tg tx rt pg li : Int} {xs : List UInt8} (h : 8 + 4 * (iwI ge).toNat + xs.length ≤ 248) : (fullL ge ph tg tx rt pg li xs).length = 252 := by
  have := bodyL_len ge ph tg tx rt pg li xs
  simp only [fullL, List.length_append, List.length_replicate, tailL, List.length_cons, List.length_nil]
  omega
theorem right_small {ge ph tg tx rt pg li : Int} {xs : List UInt8} (h : mrightB ge ph tg tx rt pg li xs.length = true) : 8 + 4 * (iwI ge).toNat + xs.length ≤ 64 := by
  obtain ⟨g1, g2, p1, p2, t1, t2, x1, x2, r1, r2, n1, n2, l1, l2, c1⟩ := right_bounds h
  rcases w_cases ⟨g1, g2⟩ with h | h <;> rw [h] <;> omega
theorem encR_form (ge ph tg tx rt pg li : Int) (xs : List UInt8) : encR ge ph tg tx rt pg li xs = sealB (fullL ge ph tg tx rt pg li xs ++ [0, 0, 0, 0]) 252 := by
  unfold encR fullL
  rw [rsealB_eq]
  simp only [List.append_assoc]
theorem enc_eq {ge ph tg tx rt pg li : Int} {xs : List UInt8} (h : mrightB ge ph tg tx rt pg li xs.length = true) : encP ge ph tg tx rt pg li xs = encR ge ph tg tx rt pg li xs := by
  have hs := right_small h
  have hl := fullL_len (ge := ge) (ph := ph) (tg := tg) (tx := tx) (rt := rt) (pg := pg) (li := li) (xs := xs) (by omega)
  rw [encR_form]
  unfold encP
  rw [encW_form h, show (bodyL ge ph tg tx rt pg li xs ++ List.replicate (248 - (bodyL ge ph tg tx rt pg li xs).length) 0) ++ tailL = fullL ge ph tg tx rt pg li xs from List.append_assoc _ _ _]
  congr 1
  show putL (List.replicate 256 0) (fullL ge ph tg tx rt pg li xs) 0 = _
  unfold putL
  rw [List.take_zero, List.nil_append, Nat.zero_add, hl, List.drop_replicate]
  rfl

theorem seg (P Q R : List UInt8) (i j : Nat) (h1 : P.length = i) (h2 : Q.length = j) : ((P ++ (Q ++ R)).drop i).take j = Q := by
  subst h1 h2
  rw [List.drop_left, List.take_left]
/-- A meta's bytes: what stands in them, and their seal. -/
theorem encR_split {ge ph tg tx rt pg li : Int} {xs : List UInt8} (h : 8 + 4 * (iwI ge).toNat + xs.length ≤ 248) :
    ∃ s4 : List UInt8, s4.length = 4 ∧ encR ge ph tg tx rt pg li xs = fullL ge ph tg tx rt pg li xs ++ s4 ∧ sealB (encR ge ph tg tx rt pg li xs) 252 = encR ge ph tg tx rt pg li xs ∧
      ∀ ys : List UInt8, ys.length = 256 → ys.take 252 = fullL ge ph tg tx rt pg li xs → sealB ys 252 = encR ge ph tg tx rt pg li xs := by
  have hl := fullL_len (ge := ge) (ph := ph) (tg := tg) (tx := tx) (rt := rt) (pg := pg) (li := li) (xs := xs) h
  obtain ⟨s4, h4, hs, hk⟩ := seal_form (fullL ge ph tg tx rt pg li xs ++ [0, 0, 0, 0]) (by rw [List.length_append, hl]; rfl)
  have ht : List.take 252 (fullL ge ph tg tx rt pg li xs ++ [0, 0, 0, 0]) = fullL ge ph tg tx rt pg li xs := List.take_left' hl
  rw [ht] at hs hk
  have hE : encR ge ph tg tx rt pg li xs = fullL ge ph tg tx rt pg li xs ++ s4 := by rw [encR_form, hs]
  refine ⟨s4, h4, hE, ?_, fun ys hy e => by rw [hE]; exact hk ys hy e⟩
  rw [hE]
  exact hk _ (by rw [List.length_append, hl, h4]) (List.take_left' hl)
theorem b8_of (x0 x1 x2 x3 x4 x5 x6 x7 : UInt8) (t : List UInt8) : b8 (x0 :: x1 :: x2 :: x3 :: x4 :: x5 :: x6 :: x7 :: t) 4 = x4.toNat ∧ b8 (x0 :: x1 :: x2 :: x3 :: x4 :: x5 :: x6 :: x7 :: t) 5 = x5.toNat ∧ b8 (x0 :: x1 :: x2 :: x3 :: x4 :: x5 :: x6 :: x7 :: t) 6 = x6.toNat ∧ b8 (x0 :: x1 :: x2 :: x3 :: x4 :: x5 :: x6 :: x7 :: t) 7 = x7.toNat := ⟨rfl, rfl, rfl, rfl⟩
theorem one_back {x : Int} (h0 : 0 ≤ x) (h1 : x ≤ 255) : (((UInt8.ofNat (x / 256 ^ 0 % 256).toNat).toNat : Nat) : Int) = x := by rw [b1]; omega
theorem numR_le8 {v : Int} {w : Nat} (hw : w = 4 ∨ w = 8) (h0 : 0 ≤ v) (h1 : v ≤ 2147483647) : numR (le8 v w) = v := by
  have hb : (leN (le8 v w) : Int) = v := by
    rcases hw with rfl | rfl
    · exact leN_back (wd := 4) (fits_w (.inl rfl) h0 h1)
    · exact leN_back (wd := 8) (fits_w (.inr rfl) h0 h1)
  have hd := leN_drop_le (le8 v w) 1
  unfold numR
  rw [if_pos (by omega), hb]
/-- What the reference reads of a meta's bytes. -/
theorem encR_read {ge ph tg tx rt pg li : Int} {xs : List UInt8} (h : mrightB ge ph tg tx rt pg li xs.length = true) :
    (encR ge ph tg tx rt pg li xs).length = 256 ∧ b8 (encR ge ph tg tx rt pg li xs) 4 = ge ∧ b8 (encR ge ph tg tx rt pg li xs) 5 = ph ∧ b8 (encR ge ph tg tx rt pg li xs) 6 = tg ∧
      rfN (encR ge ph tg tx rt pg li xs) 0 = tx ∧ rfN (encR ge ph tg tx rt pg li xs) 1 = rt ∧ rfN (encR ge ph tg tx rt pg li xs) 2 = pg ∧ rfN (encR ge ph tg tx rt pg li xs) 3 = li ∧
      rfCu (encR ge ph tg tx rt pg li xs) = xs ∧ refE (encR ge ph tg tx rt pg li xs) = 0 := by
  obtain ⟨g1, g2, p1, p2, t1, t2, x1, x2, r1, r2, n1, n2, l1, l2, c1⟩ := right_bounds h
  have hsm := right_small h
  have hw := w_cases ⟨g1, g2⟩
  obtain ⟨w, hW⟩ : ∃ w, (iwI ge).toNat = w := ⟨_, rfl⟩
  have hw' : w = 4 ∨ w = 8 := by rcases hw with h | h <;> rw [h] at hW <;> subst hW <;> decide
  obtain ⟨s4, h4, hE, hS, _⟩ := encR_split (ge := ge) (ph := ph) (tg := tg) (tx := tx) (rt := rt) (pg := pg) (li := li) (xs := xs) (by omega)
  have hl := fullL_len (ge := ge) (ph := ph) (tg := tg) (tx := tx) (rt := rt) (pg := pg) (li := li) (xs := xs) (by omega)
  have hlen : (encR ge ph tg tx rt pg li xs).length = 256 := by rw [hE, List.length_append, hl, h4]
  obtain ⟨E, hEE⟩ : ∃ E, encR ge ph tg tx rt pg li xs = E := ⟨_, rfl⟩
  rw [hEE] at hE hS hlen ⊢
  -- as one row
  obtain ⟨Z, hZ⟩ : ∃ Z, List.replicate (248 - (bodyL ge ph tg tx rt pg li xs).length) (0 : UInt8) = Z := ⟨_, rfl⟩
  have hF : E = hdrL ge ph tg xs.length ++ (le8 tx w ++ (le8 rt w ++ (le8 pg w ++ (le8 li w ++ (xs ++ (Z ++ (tailL ++ s4))))))) := by
    rw [hE]
    unfold fullL bodyL
    rw [show List.replicate (248 - (((((hdrL ge ph tg xs.length ++ le8 tx (iwI ge).toNat) ++ le8 rt (iwI ge).toNat) ++ le8 pg (iwI ge).toNat) ++ le8 li (iwI ge).toNat) ++ xs).length) (0 : UInt8) = Z from hZ, hW]
    simp only [List.append_assoc]
  have hbl := bodyL_len ge ph tg tx rt pg li xs
  rw [hW] at hbl
  have hZl : Z.length = 248 - (8 + 4 * w + xs.length) := by rw [← hZ, List.length_replicate, hbl]
  have hh := hdrL_len ge ph tg xs.length
  -- the eight bytes ahead
  have h8 : b8 E 4 = ge ∧ b8 E 5 = ph ∧ b8 E 6 = tg ∧ b8 E 7 = (xs.length : Int) := by
    obtain ⟨T, hT⟩ : ∃ T, le8 tx w ++ (le8 rt w ++ (le8 pg w ++ (le8 li w ++ (xs ++ (Z ++ (tailL ++ s4)))))) = T := ⟨_, rfl⟩
    rw [hT] at hF
    have e := b8_of 82 71 65 85 (UInt8.ofNat (ge / 256 ^ 0 % 256).toNat) (UInt8.ofNat (ph / 256 ^ 0 % 256).toNat) (UInt8.ofNat (tg / 256 ^ 0 % 256).toNat) (UInt8.ofNat ((xs.length : Int) / 256 ^ 0 % 256).toNat) T
    rw [one_back (by omega) (by omega), one_back (by omega) (by omega), one_back (by omega) (by omega), one_back (by omega) (by omega)] at e
    rw [hF]
    exact e
  obtain ⟨b4, b5, b6, b7⟩ := h8
  have hfw : rfW E = w := by unfold rfW; rw [b4, hW]
  have m4 : E.take 4 = magicL := by rw [hF]; unfold hdrL; rw [List.append_assoc]; exact List.take_left' rfl
  have mt : (E.take 252).drop 248 = tailL := by
    have := seg (hdrL ge ph tg xs.length ++ (le8 tx w ++ (le8 rt w ++ (le8 pg w ++ (le8 li w ++ (xs ++ Z)))))) tailL s4 248 4 (by simp only [List.length_append, le8_length, hh]; omega) rfl
    have e : List.drop 248 (List.take 252 E) = List.take 4 (List.drop 248 E) := by rw [List.drop_take]
    rw [e, hF]
    simpa only [List.append_assoc] using this
  have n0 : rfN E 0 = tx := by
    unfold rfN
    rw [hfw, hF, seg (hdrL ge ph tg xs.length) (le8 tx w) _ _ w (by omega) (le8_length _ _)]
    exact numR_le8 hw' (by omega) (by omega)
  have n1' : rfN E 1 = rt := by
    have := seg (hdrL ge ph tg xs.length ++ le8 tx w) (le8 rt w) (le8 pg w ++ (le8 li w ++ (xs ++ (Z ++ (tailL ++ s4))))) (8 + 1 * w) w (by rw [List.length_append, le8_length]; omega) (le8_length _ _)
    unfold rfN
    rw [hfw, hF]
    simp only [List.append_assoc] at this
    rw [this]
    exact numR_le8 hw' (by omega) (by omega)
  have n2' : rfN E 2 = pg := by
    have := seg (hdrL ge ph tg xs.length ++ (le8 tx w ++ le8 rt w)) (le8 pg w) (le8 li w ++ (xs ++ (Z ++ (tailL ++ s4)))) (8 + 2 * w) w (by simp only [List.length_append, le8_length]; omega) (le8_length _ _)
    unfold rfN
    rw [hfw, hF]
    simp only [List.append_assoc] at this
    rw [this]
    exact numR_le8 hw' (by omega) (by omega)
  have n3' : rfN E 3 = li := by
    have := seg (hdrL ge ph tg xs.length ++ (le8 tx w ++ (le8 rt w ++ le8 pg w))) (le8 li w) (xs ++ (Z ++ (tailL ++ s4))) (8 + 3 * w) w (by simp only [List.length_append, le8_length]; omega) (le8_length _ _)
    unfold rfN
    rw [hfw, hF]
    simp only [List.append_assoc] at this
    rw [this]
    exact numR_le8 hw' (by omega) (by omega)
  have hc : rfCu E = xs := by
    have := seg (hdrL ge ph tg xs.length ++ (le8 tx w ++ (le8 rt w ++ (le8 pg w ++ le8 li w)))) xs (Z ++ (tailL ++ s4)) (8 + 4 * w) xs.length (by simp only [List.length_append, le8_length]; omega) rfl
    unfold rfCu
    rw [hfw, b7, hF, Int.toNat_natCast]
    simp only [List.append_assoc] at this
    exact this
  have he : rfEnd E = 8 + 4 * w + xs.length := by unfold rfEnd; rw [hfw, b7, Int.toNat_natCast]
  have hz : rfZ E = true := by
    have := seg (hdrL ge ph tg xs.length ++ (le8 tx w ++ (le8 rt w ++ (le8 pg w ++ (le8 li w ++ xs))))) Z (tailL ++ s4) (8 + 4 * w + xs.length) (248 - (8 + 4 * w + xs.length)) (by simp only [List.length_append, le8_length]; omega) hZl
    unfold rfZ
    rw [he, List.drop_take, hF]
    simp only [List.append_assoc] at this
    rw [this, ← hZ, List.all_eq_true]
    intro b hb
    rw [List.eq_of_mem_replicate hb]
    rfl
  refine ⟨hlen, b4, b5, b6, n0, n1', n2', n3', hc, ?_⟩
  unfold refE
  rw [if_pos ⟨hlen, m4, mt⟩, if_pos (by rw [rsealB_eq]; exact hS), if_pos ⟨by omega, by omega, by omega⟩, if_pos ⟨by omega, hz, by rw [b4, b5, b6, n0, n1', n2', n3', hc]; exact h⟩]
/-- What the reference takes for a meta is what it would write. -/
theorem encR_back {X : List UInt8} (h : refE X = 0) : encR (b8 X 4) (b8 X 5) (b8 X 6) (rfN X 0) (rfN X 1) (rfN X 2) (rfN X 3) (rfCu X) = X := by
  obtain ⟨hlen, hm, ht, hs, g1, g2, g3, hend, hz, hR⟩ := ref_ok h
  have hrb := right_bounds hR
  have hw := w_cases ⟨g1, g2⟩
  obtain ⟨w, hW⟩ : ∃ w, rfW X = w := ⟨_, rfl⟩
  have hW2 : (iwI (b8 X 4)).toNat = w := hW
  have hw' : w = 4 ∨ w = 8 := by rcases hw with h | h <;> rw [h] at hW2 <;> subst hW2 <;> decide
  obtain ⟨n, hn⟩ : ∃ n : Nat, b8 X 7 = (n : Int) := ⟨(b8 X 7).toNat, by have := b8_lo X 7; omega⟩
  have hE : rfEnd X = 8 + 4 * w + n := by unfold rfEnd; rw [hW, hn, Int.toNat_natCast]
  have hC : rfCu X = (X.drop (8 + 4 * w)).take n := by unfold rfCu; rw [hW, hn, Int.toNat_natCast]
  have hcl : (rfCu X).length = n := by rw [hC, List.length_take, List.length_drop]; omega
  have sg : ∀ k v, rfN X k = v → 0 ≤ v → 8 + k * w + w ≤ 248 → le8 v w = (X.drop (8 + k * w)).take w := by
    intro k v hk h0 hle
    unfold rfN numR at hk
    rw [hW] at hk
    split at hk
    · have := le8_leN ((X.drop (8 + k * w)).take w)
      rw [hk, List.length_take, List.length_drop, Nat.min_eq_left (by omega)] at this
      exact this
    · omega
  have s0 := sg 0 _ rfl (by omega) (by omega)
  have s1 := sg 1 _ rfl (by omega) (by omega)
  have s2 := sg 2 _ rfl (by omega) (by omega)
  have s3 := sg 3 _ rfl (by omega) (by omega)
  have cut : ∀ i j, X.drop i = (X.drop i).take j ++ X.drop (i + j) := fun i j => by rw [← List.drop_drop, List.take_append_drop]
  have hhd : hdrL (b8 X 4) (b8 X 5) (b8 X 6) n = X.take 8 := by
    have h4 : X.take 8 = X.take 4 ++ (X.drop 4).take 4 := by rw [show (8 : Nat) = 4 + 4 from rfl, List.take_add]
    rw [h4, hm]
    unfold hdrL
    congr 1
    have u : ∀ i, i < 256 → le8 (b8 X i) 1 = [X.getD i 0] := fun i hi => by
      show [UInt8.ofNat (b8 X i / 256 ^ 0 % 256).toNat] = _
      have hx := (X.getD i 0).toNat_lt
      unfold b8
      have e : ((((X.getD i 0).toNat : Nat) : Int) / 256 ^ 0 % 256).toNat = (X.getD i 0).toNat := by omega
      rw [e, UInt8.ofNat_toNat]
    rw [← hn, u 4 (by omega), u 5 (by omega), u 6 (by omega), u 7 (by omega)]
    match X, hlen with
    | x0 :: x1 :: x2 :: x3 :: x4 :: x5 :: x6 :: x7 :: t, _ => rfl
  have hfull : fullL (b8 X 4) (b8 X 5) (b8 X 6) (rfN X 0) (rfN X 1) (rfN X 2) (rfN X 3) (rfCu X) = X.take 252 := by
    have hbl := bodyL_len (b8 X 4) (b8 X 5) (b8 X 6) (rfN X 0) (rfN X 1) (rfN X 2) (rfN X 3) (rfCu X)
    rw [hW2, hcl] at hbl
    have hb : bodyL (b8 X 4) (b8 X 5) (b8 X 6) (rfN X 0) (rfN X 1) (rfN X 2) (rfN X 3) (rfCu X) = X.take (8 + 4 * w + n) := by
      unfold bodyL
      rw [hcl, hW2, hhd, s0, s1, s2, s3, hC]
      rw [show 8 + 0 * w = 8 by omega, ← List.take_add, show 8 + 1 * w = 8 + w by omega, ← List.take_add, show 8 + 2 * w = 8 + w + w by omega, ← List.take_add, show 8 + 3 * w = 8 + w + w + w by omega, ← List.take_add, show 8 + 4 * w = 8 + w + w + w + w by omega, ← List.take_add]
    have hzz : List.replicate (248 - (8 + 4 * w + n)) (0 : UInt8) = (X.drop (8 + 4 * w + n)).take (248 - (8 + 4 * w + n)) := by
      have hz2 := hz
      unfold rfZ at hz2
      rw [hE, List.drop_take] at hz2
      refine (List.eq_replicate_iff.2 ⟨by rw [List.length_take, List.length_drop]; omega, fun b hb => ?_⟩).symm
      exact beq_iff_eq.1 (List.all_eq_true.1 hz2 b hb)
    unfold fullL
    rw [hbl, hb, hzz, ← List.append_assoc, ← List.take_add, show 8 + 4 * w + n + (248 - (8 + 4 * w + n)) = 248 by omega]
    rw [← ht, List.drop_take, ← List.take_add]
  obtain ⟨s4, h4, hEq, hS, hk⟩ := encR_split (ge := b8 X 4) (ph := b8 X 5) (tg := b8 X 6) (tx := rfN X 0) (rt := rfN X 1) (pg := rfN X 2) (li := rfN X 3) (xs := rfCu X) (by rw [hW2, hcl]; omega)
  rw [← hk X hlen hfull.symm, ← rsealB_eq]
  exact hs

theorem leN_one (X : List UInt8) (a : Nat) (h : a < X.length) : leN ((X.drop a).take 1) = (X.getD a 0).toNat := by
  rw [List.drop_eq_getElem_cons h, List.take_succ_cons, List.take_zero, List.getD_eq_getElem?_getD, List.getElem?_eq_getElem h]
  simp [leN]
theorem get1 {X : List UInt8} {a : Nat} (h : a < X.length) : gV X ⟨a, false⟩ 1 = b8 X a ∧ gS X ⟨a, false⟩ 1 = ⟨a + 1, false⟩ := by
  have hx := (X.getD a 0).toNat_lt
  have hl := leN_one X a h
  have ho : getOk X.length a false 1 X = true := decide_eq_true ⟨rfl, by decide, by decide, by show a + 1 ≤ _; omega, by show leN ((X.drop a).take 1) ≤ _; omega⟩
  constructor
  · unfold gV getV
    rw [if_pos ho]
    show ((leN ((X.drop a).take 1) : Nat) : Int) = _
    rw [hl]
    rfl
  · unfold gS getA
    rw [if_pos ho, ho]
    rfl
theorem rd_head {X : List UInt8} (h : X.length = 256) : rdGe X = b8 X 4 ∧ rdPh X = b8 X 5 ∧ rdTg X = b8 X 6 ∧ rdLo X = b8 X 7 ∧ rs4 X = ⟨8, false⟩ := by
  have a4 := get1 (X := X) (a := 4) (by omega)
  have a5 := get1 (X := X) (a := 5) (by omega)
  have a6 := get1 (X := X) (a := 6) (by omega)
  have a7 := get1 (X := X) (a := 7) (by omega)
  have s1 : rs1 X = ⟨5, false⟩ := a4.2
  have s2 : rs2 X = ⟨6, false⟩ := by unfold rs2; rw [s1]; exact a5.2
  have s3 : rs3 X = ⟨7, false⟩ := by unfold rs3; rw [s2]; exact a6.2
  have s4 : rs4 X = ⟨8, false⟩ := by unfold rs4; rw [s3]; exact a7.2
  refine ⟨a4.1, ?_, ?_, ?_, s4⟩
  · unfold rdPh; rw [s1]; exact a5.1
  · unfold rdTg; rw [s2]; exact a6.1
  · unfold rdLo; rw [s3]; exact a7.1
theorem getw {X : List UInt8} {a w : Nat} {v : Int} (h : X.length = 256) (hw : w = 4 ∨ w = 8) (ha : a + w ≤ 256) (hv : numR ((X.drop a).take w) = v) (h0 : 0 ≤ v) (h1 : v ≤ 2147483647) : gV X ⟨a, false⟩ (w : Int) = v ∧ gS X ⟨a, false⟩ (w : Int) = ⟨a + w, false⟩ := by
  have hn : (leN ((X.drop a).take w) : Int) = v := by
    unfold numR at hv
    split at hv <;> omega
  have ho : getOk X.length a false (w : Int) X = true := decide_eq_true ⟨rfl, by omega, by omega, by rw [Int.toNat_natCast]; omega, by rw [Int.toNat_natCast]; omega⟩
  constructor
  · unfold gV getV
    rw [if_pos ho, Int.toNat_natCast]
    exact hn
  · unfold gS getA
    rw [if_pos ho, ho, Int.toNat_natCast]
    rfl
/-- Where the reference finds a meta, the program reads the same one. -/
theorem rd_rf {X : List UInt8} (h : refE X = 0) : rdGe X = b8 X 4 ∧ rdPh X = b8 X 5 ∧ rdTg X = b8 X 6 ∧ rdTx X = rfN X 0 ∧ rdRt X = rfN X 1 ∧ rdPg X = rfN X 2 ∧ rdLi X = rfN X 3 ∧ rdCu X = rfCu X := by
  obtain ⟨hlen, hm, ht, hs, g1, g2, g3, hend, hz, hR⟩ := ref_ok h
  have hrb := right_bounds hR
  have hw := w_cases ⟨g1, g2⟩
  obtain ⟨e4, e5, e6, e7, s4⟩ := rd_head hlen
  obtain ⟨w, hW⟩ : ∃ w, rfW X = w := ⟨_, rfl⟩
  have hW2 : iwI (b8 X 4) = (w : Int) := by unfold rfW at hW; omega
  have hw' : w = 4 ∨ w = 8 := by omega
  have hwd : rdWd X = (w : Int) := by unfold rdWd; rw [e4, hW2, if_neg (by omega)]
  have n0 : numR ((X.drop 8).take w) = rfN X 0 := by unfold rfN; rw [hW, show 8 + 0 * w = 8 by omega]
  have n1 : numR ((X.drop (8 + w)).take w) = rfN X 1 := by unfold rfN; rw [hW, show 8 + 1 * w = 8 + w by omega]
  have n2 : numR ((X.drop (8 + w + w)).take w) = rfN X 2 := by unfold rfN; rw [hW, show 8 + 2 * w = 8 + w + w by omega]
  have n3 : numR ((X.drop (8 + w + w + w)).take w) = rfN X 3 := by unfold rfN; rw [hW, show 8 + 3 * w = 8 + w + w + w by omega]
  have a0 := getw hlen hw' (by omega) n0 (by omega) (by omega)
  have a1 := getw hlen hw' (by omega) n1 (by omega) (by omega)
  have a2 := getw hlen hw' (by omega) n2 (by omega) (by omega)
  have a3 := getw hlen hw' (by omega) n3 (by omega) (by omega)
  have s5 : rs5 X = ⟨8 + w, false⟩ := by unfold rs5; rw [s4, hwd]; exact a0.2
  have s6 : rs6 X = ⟨8 + w + w, false⟩ := by unfold rs6; rw [s5, hwd]; exact a1.2
  have s7 : rs7 X = ⟨8 + w + w + w, false⟩ := by unfold rs7; rw [s6, hwd]; exact a2.2
  have s8 : rs8 X = ⟨8 + w + w + w + w, false⟩ := by unfold rs8; rw [s7, hwd]; exact a3.2
  refine ⟨e4, e5, e6, ?_, ?_, ?_, ?_, ?_⟩
  · unfold rdTx; rw [s4, hwd]; exact a0.1
  · unfold rdRt; rw [s5, hwd]; exact a1.1
  · unfold rdPg; rw [s6, hwd]; exact a2.1
  · unfold rdLi; rw [s7, hwd]; exact a3.1
  · have h7 := b8_lo X 7
    unfold rfEnd at hend
    rw [hW] at hend
    unfold rdCu rfCu
    rw [s8, e7, hW, if_pos ⟨rfl, h7, by show 8 + w + w + w + w + _ ≤ _; omega⟩, show 8 + 4 * w = 8 + w + w + w + w by omega]
theorem pre8_tail {X : List UInt8} (h : X.length = 256) : pre8 (X.drop 248) tailL = true ↔ (X.take 252).drop 248 = tailL := by
  have e : (X.take 252).drop 248 = (X.drop 248).take 4 := by rw [List.drop_take]
  rw [e]
  unfold pre8
  rw [decide_eq_true_iff]
  exact ⟨fun k => k.2, fun k => ⟨by rw [List.length_drop, h]; decide, k⟩⟩
theorem pre8_magic {X : List UInt8} (h : X.length = 256) : pre8 X magicL = true ↔ X.take 4 = magicL := by
  unfold pre8
  rw [decide_eq_true_iff]
  exact ⟨fun k => k.2, fun k => ⟨by rw [h]; decide, k⟩⟩
theorem cond1 (X : List UInt8) : (X.length = 256 ∧ pre8 X magicL = true ∧ pre8 (X.drop 248) tailL = true) ↔ (X.length = 256 ∧ X.take 4 = magicL ∧ (X.take 252).drop 248 = tailL) :=
  ⟨fun k => ⟨k.1, (pre8_magic k.1).1 k.2.1, (pre8_tail k.1).1 k.2.2⟩, fun k => ⟨k.1, (pre8_magic k.1).2 k.2.1, (pre8_tail k.1).2 k.2.2⟩⟩
theorem cond3 {X : List UInt8} (h : X.length = 256) : (genB (rdGe X) = true ∧ rdTg X ≤ 3) ↔ (1 ≤ b8 X 4 ∧ b8 X 4 ≤ 3 ∧ b8 X 6 ≤ 3) := by
  obtain ⟨e4, _, e6, _⟩ := rd_head h
  rw [e4, e6]
  unfold genB
  rw [decide_eq_true_iff]
  constructor
  · intro k; omega
  · intro k; omega
theorem dec_ok {X : List UInt8} (h : decE X = 0) : mrightB (rdGe X) (rdPh X) (rdTg X) (rdTx X) (rdRt X) (rdPg X) (rdLi X) (rdCu X).length = true ∧ encP (rdGe X) (rdPh X) (rdTg X) (rdTx X) (rdRt X) (rdPg X) (rdLi X) (rdCu X) = X := by
  unfold decE at h
  split at h
  · split at h
    · split at h
      · split at h
        · rename_i k
          exact k
        · omega
      · omega
    · omega
  · omega
theorem dec_iff (X : List UInt8) : decE X = 0 ↔ refE X = 0 := by
  constructor
  · intro h
    obtain ⟨hR, hE⟩ := dec_ok h
    rw [enc_eq hR] at hE
    have := (encR_read hR).2.2.2.2.2.2.2.2.2
    rw [hE] at this
    exact this
  · intro h
    obtain ⟨f1, f2, f3, f4, f5, f6, f7, f8⟩ := rd_rf h
    obtain ⟨hlen, hm, ht, hs, g1, g2, g3, hend, hz, hR⟩ := ref_ok h
    have hb := encR_back h
    unfold decE
    rw [if_pos ((cond1 X).2 ⟨hlen, hm, ht⟩), if_pos (by rw [← rsealB_eq]; exact hs), if_pos ((cond3 hlen).2 ⟨g1, g2, g3⟩), f1, f2, f3, f4, f5, f6, f7, f8, if_pos ⟨hR, by rw [enc_eq hR]; exact hb⟩]
theorem dec_ref (X : List UInt8) : decE X = refE X := by
  by_cases h : refE X = 0
  · rw [h]
    exact (dec_iff X).2 h
  · have h' : decE X ≠ 0 := fun k => h ((dec_iff X).1 k)
    by_cases k1 : X.length = 256 ∧ X.take 4 = magicL ∧ (X.take 252).drop 248 = tailL
    · by_cases k2 : rsealB X 252 = X
      · by_cases k3 : 1 ≤ b8 X 4 ∧ b8 X 4 ≤ 3 ∧ b8 X 6 ≤ 3
        · have e1 : decE X = 92 := by
            unfold decE at h' ⊢
            rw [if_pos ((cond1 X).2 k1), if_pos (by rw [← rsealB_eq]; exact k2), if_pos ((cond3 k1.1).2 k3)] at h' ⊢
            split at h'
            · exact absurd rfl h'
            · rename_i k4
              rw [if_neg k4]
          have e2 : refE X = 92 := by
            unfold refE at h ⊢
            rw [if_pos k1, if_pos k2, if_pos k3] at h ⊢
            split at h
            · exact absurd rfl h
            · rename_i k4
              rw [if_neg k4]
          rw [e1, e2]
        · unfold decE refE
          rw [if_pos ((cond1 X).2 k1), if_pos (by rw [← rsealB_eq]; exact k2), if_neg (fun k => k3 ((cond3 k1.1).1 k)), if_pos k1, if_pos k2, if_neg k3]
      · unfold decE refE
        rw [if_pos ((cond1 X).2 k1), if_neg (fun k => k2 (by rw [rsealB_eq]; exact k)), if_pos k1, if_neg k2]
    · unfold decE refE
      rw [if_neg (fun k => k1 ((cond1 X).1 k)), if_neg k1]
end Go.Proofs.Ythhalmjapiempaa
