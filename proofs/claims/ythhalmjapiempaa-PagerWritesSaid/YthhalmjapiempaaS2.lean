/- The document's disk: Load; Do where it reads. -/
import Derived.Test.YthhalmjapiempaaS1
set_option linter.unusedVariables false
set_option linter.unusedSimpArgs false
namespace Go.Proofs.Ythhalmjapiempaa
open Go.RowKit

theorem row6_set {W : World} {g : Nat} {T : TypeId} {x0 x1 x2 x3 x4 x5 : Value} (a b c d e f : Value) (h : W.heap[g]? = some (.cells #[x0, x1, x2, x3, x4, x5] T)) :
    ((((((W.setCell ⟨g, 0, none⟩ a).setCell ⟨g, 1, none⟩ b).setCell ⟨g, 2, none⟩ c).setCell ⟨g, 3, none⟩ d).setCell ⟨g, 4, none⟩ e).setCell ⟨g, 5, none⟩ f).heap[g]? = some (.cells #[a, b, c, d, e, f] T) := by
  have h1 : (W.setCell ⟨g, 0, none⟩ a).heap[g]? = some (.cells #[a, x1, x2, x3, x4, x5] T) := heap_setCell_same W g 0 _ _ a h
  have h2 : (_root_.Go.World.setCell _ ⟨g, 1, none⟩ b).heap[g]? = some (.cells #[a, b, x2, x3, x4, x5] T) := heap_setCell_same _ g 1 _ _ b h1
  have h3 : (_root_.Go.World.setCell _ ⟨g, 2, none⟩ c).heap[g]? = some (.cells #[a, b, c, x3, x4, x5] T) := heap_setCell_same _ g 2 _ _ c h2
  have h4 : (_root_.Go.World.setCell _ ⟨g, 3, none⟩ d).heap[g]? = some (.cells #[a, b, c, d, x4, x5] T) := heap_setCell_same _ g 3 _ _ d h3
  have h5 : (_root_.Go.World.setCell _ ⟨g, 4, none⟩ e).heap[g]? = some (.cells #[a, b, c, d, e, x5] T) := heap_setCell_same _ g 4 _ _ e h4
  exact heap_setCell_same _ g 5 _ _ f h5
theorem only_set6 {W : World} {g : Nat} (a b c d e f : Value) : OnlyB g W ((((((W.setCell ⟨g, 0, none⟩ a).setCell ⟨g, 1, none⟩ b).setCell ⟨g, 2, none⟩ c).setCell ⟨g, 3, none⟩ d).setCell ⟨g, 4, none⟩ e).setCell ⟨g, 5, none⟩ f) :=
  ((((((OnlyB.refl g W).set 0 a).set 1 b).set 2 c).set 3 d).set 4 e).set 5 f
theorem below_only {b g : Nat} {W X Y : World} (h : Below b W X) (ho : OnlyB g X Y) (hg : b ≤ g) (hb : b ≤ X.heap.size) : Below b W Y :=
  ⟨ho.os.trans h.os, ho.tape.trans h.tape, ho.output.trans h.output, Nat.le_trans h.size ho.size, fun k hk => (ho.block k (by omega) (by omega)).trans (h.block k hk)⟩
theorem Bs.only6 {W X : World} {g : Nat} {A : Option Addr} {n c : Nat} {xs : List UInt8} (h : Bs W A n c xs) (ho : OnlyB g W X) (hg : 0 < n → ∀ a, A = some a → a.block ≠ g) : Bs X A n c xs :=
  h.blk fun a e h0 => ho.block _ (h.lt a e h0) (hg h0 a e)
theorem Rc.nil6 (w : World) : Rc w 2 none 0 0 (wv []) := ⟨rfl, Nat.le_refl _, by omega, by omega, wv_one _, fun h => absurd h (by omega)⟩
theorem loadL_pad (xs : List UInt8) (p : Nat) : ∀ n, n * 64 ≤ xs.length + p → loadL xs n = loadL (xs ++ List.replicate p 0) n
  | 0, _ => rfl
  | n + 1, h => by
    rw [loadL, loadL, loadL_pad xs p n (by omega)]
    congr 1
    unfold sgL
    apply List.ext_getElem?
    intro i
    rcases Nat.lt_or_ge i 64 with q | q
    · have key : ∀ l : List UInt8, ((l.drop (64 * n)).take 64 ++ List.replicate (64 - ((l.drop (64 * n)).take 64).length) 0)[i]? = some (l.getD (64 * n + i) 0) := by
        intro l
        rw [List.getD_eq_getElem?_getD]
        rcases Nat.lt_or_ge (64 * n + i) l.length with hl | hl
        · rw [List.getElem?_append_left (by rw [List.length_take, List.length_drop]; omega), cut_at, if_pos q, List.getElem?_eq_getElem hl]
          rfl
        · rw [List.getElem?_append_right (by rw [List.length_take, List.length_drop]; omega), List.getElem?_replicate_of_lt (by rw [List.length_take, List.length_drop]; omega), List.getElem?_eq_none hl]
          rfl
      rw [key, key]
      congr 1
      simp only [List.getD_eq_getElem?_getD]
      rcases Nat.lt_or_ge (64 * n + i) xs.length with hl | hl
      · rw [List.getElem?_append_left hl]
      · rw [List.getElem?_append_right hl, List.getElem?_eq_none hl, List.getElem?_replicate_of_lt (by omega)]
        rfl
    · rw [List.getElem?_eq_none (by rw [List.length_append, List.length_take, List.length_drop, List.length_replicate]; omega), List.getElem?_eq_none (by rw [List.length_append, List.length_take, List.length_drop, List.length_append, List.length_replicate, List.length_replicate]; omega)]
/-- The image that is loaded. -/
theorem load_cut (xs : List UInt8) (p : Nat) (L : Int) (h0 : 0 ≤ L) (hp : (xs.length + p) % 64 = 0) (hq : p < 64) :
    (if 64 * L < ((xs.length + p : Nat) : Int) then (xs ++ List.replicate p 0).take (64 * L).toNat else xs ++ List.replicate p 0) = loadL xs (cntL xs.length L) := by
  have hl : (xs ++ List.replicate p 0).length = xs.length + p := by rw [List.length_append, List.length_replicate]
  have hc : (xs.length + 63) / 64 = (xs.length + p) / 64 := by omega
  split
  · have e : cntL xs.length L = L.toNat := by unfold cntL; omega
    rw [e, loadL_pad xs p _ (by omega), loadL_all _ _ (by rw [hl]; omega), show (64 * L).toNat = L.toNat * 64 by omega]
  · have e : cntL xs.length L = (xs.length + p) / 64 := by unfold cntL; omega
    rw [e, loadL_pad xs p _ (by omega), loadL_all _ _ (by rw [hl]; omega), List.take_of_length_le (by rw [hl]; omega)]
def pad64 (n : Nat) : Nat := (64 - n % 64) % 64
end Go.Proofs.Ythhalmjapiempaa
