/- Values on pages in a row: plain. -/
import Derived.Test.YtbjfklgmbeaaoaaWU
set_option linter.unusedVariables false
set_option linter.unusedSimpArgs false
namespace Go.Proofs.Ytbjfklgmbeaaoaa
open Go.RowKit

/-- Pages in a row. -/
def runI (a : Int) (n : Nat) : List Int := (List.range n).map (fun (k : Nat) => a + (k : Int))
theorem runI_len (a : Int) (n : Nat) : (runI a n).length = n := by simp [runI]
theorem runI_succ (a : Int) (n : Nat) : runI a (n + 1) = runI a n ++ [a + (n : Int)] := by
  unfold runI
  rw [List.range_succ, List.map_append]
  rfl
theorem runI_at {a : Int} {n k : Nat} (h : k < n) : (runI a n)[k]? = some (a + (k : Int)) := by
  unfold runI
  rw [List.getElem?_map, List.getElem?_range h]
  rfl
theorem runI_getD {a : Int} {n k : Nat} (h : k < n) : (runI a n).getD k 0 = a + (k : Int) := getD_at (runI_at h)
theorem runI_mem {a z : Int} {n : Nat} (h : z ∈ runI a n) : a ≤ z ∧ z < a + (n : Int) := by
  unfold runI at h
  obtain ⟨k, hk, rfl⟩ := List.mem_map.1 h
  have := List.mem_range.1 hk
  omega
theorem ov_run {g a : Int} {v : List UInt8} {n : Nat} (hn : 1 ≤ n) (h : ovM g v.length = (n : Int)) (h2 : 2 ≤ a) (h3 : a + (n : Int) ≤ 16384) : ovE g v (runI a n) = 0 := by
  refine ovE_may.2 ?_
  rw [may_yes fun i hi => ?_]
  · exact decide_eq_true ⟨by omega, by rw [runI_len, h]⟩
  · rw [runI_len] at hi
    unfold mayAt
    rw [runI_getD hi, Bool.and_eq_true, Bool.and_eq_true]
    refine ⟨⟨decide_eq_true (by omega), ?_⟩, ?_⟩
    · rw [Bool.not_eq_true', ← Bool.not_eq_true, List.contains_iff_mem]
      intro hm
      obtain ⟨k, hk⟩ := List.getElem?_of_mem hm
      have hk2 : k < i := by
        have := (List.getElem?_eq_some_iff.1 hk).1
        rw [List.length_take] at this
        omega
      rw [List.getElem?_take, if_pos hk2, runI_at (by omega)] at hk
      injection hk with hk
      omega
    · by_cases q : i = 0
      · rw [decide_eq_true q, Bool.or_true, Bool.true_or]
      · rw [runI_getD (show i - 1 < n by omega), decide_eq_true (show a + (i : Int) = a + ((i - 1 : Nat) : Int) + 1 by omega), Bool.or_true]
theorem flat_page : ∀ (l : List (List UInt8)) (k : Nat), (∀ x, x ∈ l → x.length = 256) → k < l.length → (l.flatten.drop (256 * k)).take 256 = l.getD k []
  | x :: l, 0, h, _ => by
    rw [List.flatten_cons, Nat.mul_zero, List.drop_zero, List.take_left' (h x List.mem_cons_self)]
    rfl
  | x :: l, k + 1, h, hk => by
    rw [List.flatten_cons, show 256 * (k + 1) = 256 + 256 * k by omega, ← List.drop_drop, List.drop_left' (h x List.mem_cons_self)]
    have := flat_page l k (fun y hy => h y (List.mem_cons_of_mem _ hy)) (by rw [List.length_cons] at hk; omega)
    rw [this]
    simp [List.getD_eq_getElem?_getD]
theorem pg_of {pre F post : List UInt8} {a k n : Nat} (hp : pre.length = 256 * a) (hF : F.length = 256 * n) (hk : k < n) : pgI (pre ++ F ++ post) ((a : Int) + (k : Int)) = some ((F.drop (256 * k)).take 256) := by
  unfold pgI
  rw [if_pos (by
    rw [List.length_append, List.length_append, hp, hF]
    omega), show ((a : Int) + (k : Int)).toNat = a + k by omega]
  congr 1
  rw [show 256 * (a + k) = pre.length + 256 * k by omega, List.append_assoc, ← List.drop_drop, List.drop_left' rfl, List.drop_append_of_le_length (by omega), List.take_append_of_le_length (by rw [List.length_drop]; omega)]
theorem stands_run {pre post : List UInt8} {g : Int} {v : List UInt8} {a n : Nat} (hn : 1 ≤ n) (h : ovM g v.length = (n : Int)) (h2 : 2 ≤ a) (h3 : a + n ≤ 16384) (hp : pre.length = 256 * a) :
    Stands (pre ++ (ovL g v (runI a n)).flatten ++ post) g a v (runI a n) := by
  have ho := ov_run (a := (a : Int)) hn h (by omega) (by omega)
  have h256 := ovL_len256 ho
  have hl : (ovL g v (runI a n)).length = n := by rw [ovL_len ho, runI_len]
  refine ⟨ho, by rw [runI_at (by omega)]; simp, fun k z hz => ?_⟩
  have hk : k < n := by have := (List.getElem?_eq_some_iff.1 hz).1; rwa [runI_len] at this
  rw [runI_at hk] at hz
  injection hz with hz
  subst hz
  rw [pg_of hp (show (ovL g v (runI a n)).flatten.length = 256 * n by rw [flat_len h256, hl]) hk, flat_page _ k h256 (by omega)]
end Go.Proofs.Ytbjfklgmbeaaoaa
