/- The law's reader of an image. -/
import Derived.Test.YtbjfklgmbeaaoaaWR
set_option linter.unusedVariables false
set_option linter.unusedSimpArgs false
namespace Go.Proofs.Ytbjfklgmbeaaoaa
open Go.RowKit

def imE (im : List UInt8) (id many : Int) : Int := if 0 ≤ id ∧ 0 ≤ many ∧ many ≤ ((im.length / 256 : Nat) : Int) ∧ id ≤ ((im.length / 256 : Nat) : Int) - many then 0 else 11
def imB (im : List UInt8) (id many : Int) : List UInt8 := if imE im id many = 0 then (im.drop (256 * id.toNat)).take (256 * many.toNat) else []
def imR (im : List UInt8) : RP := ⟨imE im, imB im⟩
/-- How often was read. -/
def TBox (T : Nat) (k : Nat) (W : World) : Prop := W.heap[T]? = some (.cells #[.int .i64 (IntKind.i64.wrap (k : Int))] 3)
theorem wrap_succ (k : Nat) : IntKind.i64.wrap (IntKind.i64.wrap (k : Int) + 1) = IntKind.i64.wrap ((k + 1 : Nat) : Int) := by
  simp only [IntKind.wrap_i64, wrap64]
  omega
theorem im_bad {im : List UInt8} {id many : Int} (h : ¬ (0 ≤ id ∧ 0 ≤ many ∧ many ≤ ((im.length / 256 : Nat) : Int) ∧ id ≤ ((im.length / 256 : Nat) : Int) - many)) : imE im id many = 11 ∧ imB im id many = [] := by
  have h1 : imE im id many = 11 := if_neg h
  exact ⟨h1, by unfold imB; rw [h1, if_neg (by decide)]⟩
set_option maxHeartbeats 8000000 in
set_option maxRecDepth 100000 in
theorem reader1_any (P1 P2 T : Nat) (A : Option Addr) (n c : Nat) (im : List UInt8) (k : Nat) (id many : Int) (W : World) (h1 : W.heap[P1]? = some (.cells #[.pointer (some ⟨T, 0, none⟩)] 35)) (h2 : W.heap[P2]? = some (.cells #[.slice A n c] 27)) (hT : TBox T k W) (hb : Bs W A n c im) (hn : n ≤ 1000000) (hP1 : P1 ≠ T) (hP2 : P2 ≠ T) (hA : ∀ ad, A = some ad → 0 < n → ad.block ≠ T) :
    Calls Try.prog 50 #[.int .i64 id, .int .i64 many, .pointer (some ⟨P1, 0, none⟩), .pointer (some ⟨P2, 0, none⟩)] W fun e W' => ∃ A5 c5, e = .returned (.tuple #[.slice A5 (imB im id many).length c5, .int .i64 (imE im id many)]) ∧ Bs W' A5 (imB im id many).length c5 (imB im id many) ∧ (∀ ad, A5 = some ad → 0 < (imB im id many).length → ad.block ≠ T) ∧ TBox T (k + 1) W' ∧ OnlyB T W W' := by
  have hl := hb.len
  have hle := hb.le
  have hcap := hb.cap
  obtain ⟨kv, hkv⟩ : ∃ x, IntKind.i64.wrap (k : Int) = x := ⟨_, rfl⟩
  obtain ⟨kw, hkw⟩ : ∃ x, IntKind.i64.wrap ((k + 1 : Nat) : Int) = x := ⟨_, rfl⟩
  have ww : IntKind.i64.wrap (kv + 1) = kw := by rw [← hkv, ← hkw]; exact wrap_succ k
  unfold TBox at hT
  rw [hkv] at hT
  have ho := (OnlyB.refl T W).set 0 (.int .i64 kw)
  have HS := Aside0.mk (show TBox T (k + 1) (W.setCell ⟨T, 0, none⟩ (.int .i64 kw)) ∧ OnlyB T W (W.setCell ⟨T, 0, none⟩ (.int .i64 kw)) from ⟨by unfold TBox; rw [hkw, heap_setCell_same W T 0 _ _ _ hT]; rfl, ho⟩)
  have HBI := Aside0.mk (hb.only ho hA)
  have HNA := Aside0.mk hA
  have z1 : W.cell? ⟨P1, 0, none⟩ = some (.pointer (some ⟨T, 0, none⟩)) := by rw [cell_of_row _ _ _ _ _ _ h1]; rfl
  have zT : W.cell? ⟨T, 0, none⟩ = some (.int .i64 kv) := by rw [cell_of_row _ _ _ _ _ _ hT]; rfl
  have yN := fun j => Go.Joins.unfrozen_of_block hT j
  have h2' := (ho.block P2 (Array.getElem?_eq_some_iff.1 h2).1 hP2).trans h2
  have z2 : (W.setCell ⟨T, 0, none⟩ (.int .i64 kw)).cell? ⟨P2, 0, none⟩ = some (.slice A n c) := by rw [cell_of_row _ _ _ _ _ _ h2']; rfl
  obtain ⟨P, hP⟩ : ∃ P, n / 256 = P := ⟨_, rfl⟩
  have q1 : Int.tdiv (n : Int) 256 = (P : Int) := by rw [Int.tdiv_eq_ediv_of_nonneg (by omega)]; omega
  have q2 : IntKind.i64.wrap (P : Int) = (P : Int) := IntWalk.i64_in _ (by omega)
  clear h1 h2 h2' hT hkv hkw hb hA ho
  by_cases t1 : id < 0
  · have d1 : decide (id < 0) = true := decide_eq_true t1
    obtain ⟨he, hb9⟩ := im_bad (im := im) (id := id) (many := many) (by omega)
    clear t1 hl hP
    have HQ := Aside0.mk (And.intro he hb9)
    clear he hb9
    go_enter Try.func50, Try.ntmps50
    go_wp2_with fail
    go_ret2
    rw [HQ.out.1, HQ.out.2]
    exact ⟨none, 0, rfl, Bs.nil _ _ _ (by omega), (fun _ e _ => by cases e), HS.out.1, HS.out.2⟩
  · have d1 : decide (id < 0) = false := decide_eq_false t1
    by_cases t2 : many < 0
    · have d2 : decide (many < 0) = true := decide_eq_true t2
      obtain ⟨he, hb9⟩ := im_bad (im := im) (id := id) (many := many) (by omega)
      clear t1 t2 hl hP
      have HQ := Aside0.mk (And.intro he hb9)
      clear he hb9
      go_enter Try.func50, Try.ntmps50
      go_wp2_with fail
      go_ret2
      rw [HQ.out.1, HQ.out.2]
      exact ⟨none, 0, rfl, Bs.nil _ _ _ (by omega), (fun _ e _ => by cases e), HS.out.1, HS.out.2⟩
    · have d2 : decide (many < 0) = false := decide_eq_false t2
      by_cases t3 : (P : Int) < many
      · have d3 : decide ((P : Int) < many) = true := decide_eq_true t3
        obtain ⟨he, hb9⟩ := im_bad (im := im) (id := id) (many := many) (by rw [hl, hP]; omega)
        clear t1 t2 t3 hl hP
        have HQ := Aside0.mk (And.intro he hb9)
        clear he hb9
        go_enter Try.func50, Try.ntmps50
        go_wp2_with fail
        go_ret2
        rw [HQ.out.1, HQ.out.2]
        exact ⟨none, 0, rfl, Bs.nil _ _ _ (by omega), (fun _ e _ => by cases e), HS.out.1, HS.out.2⟩
      · have d3 : decide ((P : Int) < many) = false := decide_eq_false t3
        have w4 : IntKind.i64.wrap ((P : Int) - many) = (P : Int) - many := IntWalk.i64_in _ (by omega)
        by_cases t4 : (P : Int) - many < id
        · have d4 : decide ((P : Int) - many < id) = true := decide_eq_true t4
          obtain ⟨he, hb9⟩ := im_bad (im := im) (id := id) (many := many) (by rw [hl, hP]; omega)
          clear t1 t2 t3 t4 hl hP
          have HQ := Aside0.mk (And.intro he hb9)
          clear he hb9
          go_enter Try.func50, Try.ntmps50
          go_wp2_with fail
          go_ret2
          rw [HQ.out.1, HQ.out.2]
          exact ⟨none, 0, rfl, Bs.nil _ _ _ (by omega), (fun _ e _ => by cases e), HS.out.1, HS.out.2⟩
        · have d4 : decide ((P : Int) - many < id) = false := decide_eq_false t4
          obtain ⟨i, rfl⟩ := Int.eq_ofNat_of_zero_le (show 0 ≤ id by omega)
          obtain ⟨mn, rfl⟩ := Int.eq_ofNat_of_zero_le (show 0 ≤ many by omega)
          obtain ⟨p, hp⟩ : ∃ p, 256 * i = p := ⟨_, rfl⟩
          obtain ⟨x, hx⟩ : ∃ x, i + mn = x := ⟨_, rfl⟩
          obtain ⟨q, hq⟩ : ∃ q, 256 * x = q := ⟨_, rfl⟩
          have hqn : q ≤ n := by omega
          have d3' : decide (P < mn) = false := decide_eq_false (by omega)
          have d3'' : ¬ (P < mn) := by omega
          have hpq : p ≤ q := by omega
          have m1 : IntKind.i64.wrap ((i : Int) * 256) = (p : Int) := (IntWalk.i64_in _ (by omega)).trans (by omega)
          have m2 : IntKind.i64.wrap ((i : Int) + (mn : Int)) = (x : Int) := (IntWalk.i64_in _ (by omega)).trans (by omega)
          have m3 : IntKind.i64.wrap ((x : Int) * 256) = (q : Int) := (IntWalk.i64_in _ (by omega)).trans (by omega)
          have sl := fun W => sl8_lh W A n c .i64 .i64 (p : Int) (q : Int) (by omega) (by omega) (by omega)
          simp only [Int.toNat_natCast] at sl
          have he : imE im (i : Int) (mn : Int) = 0 := if_pos (by rw [hl, hP]; omega)
          have hb9 : imB im (i : Int) (mn : Int) = (im.drop p).take (q - p) := by
            unfold imB
            rw [he, if_pos rfl, Int.toNat_natCast, Int.toNat_natCast, hp, show 256 * mn = q - p by omega]
          have hlen : ((im.drop p).take (q - p)).length = q - p := by rw [List.length_take, List.length_drop]; omega
          have HQ := Aside0.mk (And.intro he (And.intro hb9 hlen))
          clear he hb9 hlen hp hx hq hl hP t1 t2 t3 t4
          go_enter Try.func50, Try.ntmps50
          go_wp2_with fail
          go_ret2
          rw [HQ.out.1, HQ.out.2.1, HQ.out.2.2]
          refine ⟨cutA A c p, c - p, rfl, (HBI.out.drop p (by omega)).take (q - p) (by omega), fun ad e h0 => ?_, HS.out.1, HS.out.2⟩
          unfold cutA at e
          split at e
          · exact HNA.out ad e (by omega)
          · cases hA9 : A with
            | none => rw [hA9] at e; cases e
            | some a2 =>
              rw [hA9] at e
              injection e with e
              rw [← e, add_blk]
              exact HNA.out a2 hA9 (by omega)
theorem im_rdr (P1 P2 T : Nat) (A : Option Addr) (n c : Nat) (im : List UInt8) (w0 : World) (hTw : T < w0.heap.size) (h1 : w0.heap[P1]? = some (.cells #[.pointer (some ⟨T, 0, none⟩)] 35)) (h2 : w0.heap[P2]? = some (.cells #[.slice A n c] 27)) (hb : Bs w0 A n c im) (hn : n ≤ 1000000) (hP1 : P1 ≠ T) (hP2 : P2 ≠ T) (hA : ∀ ad, A = some ad → 0 < n → ad.block ≠ T) :
    Rdr w0 50 #[.pointer (some ⟨P1, 0, none⟩), .pointer (some ⟨P2, 0, none⟩)] (fun a b => #[.int .i64 a, .int .i64 b, .pointer (some ⟨P1, 0, none⟩), .pointer (some ⟨P2, 0, none⟩)]) T (imR im) (TBox T) :=
  ⟨.inr ⟨rfl, _, _, rfl, rfl⟩, hTw, fun k id many W ho hbx _ _ => reader1_any P1 P2 T A n c im k id many W ((ho.block P1 (Array.getElem?_eq_some_iff.1 h1).1 hP1).trans h1) ((ho.block P2 (Array.getElem?_eq_some_iff.1 h2).1 hP2).trans h2) hbx (hb.only ho hA) hn hP1 hP2 hA,
    fun k W W1 e h => e.trans h, fun id many h => by
      have h2 : imE im id many = 0 := h
      have hl := hb.len
      unfold imE at h2
      split at h2
      · omega
      · cases h2⟩
/-- reader: two boxes. -/
theorem reader_any (A : Option Addr) (n c T : Nat) (w : World) : Calls Try.prog 17 #[.slice A n c, .pointer (some ⟨T, 0, none⟩)] w fun e w' => e = .returned (.func (.func 50) #[] #[.pointer (some ⟨w.heap.size + 1, 0, none⟩), .pointer (some ⟨w.heap.size, 0, none⟩)]) ∧ w' = (w.alloc (.cells #[.slice A n c] 27)).alloc (.cells #[.pointer (some ⟨T, 0, none⟩)] 35) := by
  go_enter Try.func17, Try.ntmps17
  go_wp2_with fail
  go_ret
  exact ⟨by simp, rfl⟩
end Go.Proofs.Ytbjfklgmbeaaoaa
