/- What a value's pages hold, and what stands in an image, as plain functions. -/
import Derived.Test.YtbjfklgmbeaaoaaWB
import Derived.Test.YtbjfklgmbeaaoaaW2
import Derived.Test.YtbjfklgmbeaaoaaK7
set_option linter.unusedVariables false
set_option linter.unusedSimpArgs false
namespace Go.Proofs.Ytbjfklgmbeaaoaa
open Go.RowKit

/-- A chain's page. -/
def chP (g : Int) (xs : List UInt8) (zs : List Int) (j : Nat) : List UInt8 :=
  wrB 79 g ((min (xs.length - j * (cpI g).toNat) (cpI g).toNat : Nat) : Int) (zs.getD (j + 1) 0) ((xs.drop (j * (cpI g).toNat)).take (min (xs.length - j * (cpI g).toNat) (cpI g).toNat))
def chL (g : Int) (xs : List UInt8) (zs : List Int) : List (List UInt8) := (List.range zs.length).map (chP g xs zs)
theorem ch_get {g : Int} {xs : List UInt8} {zs : List Int} {j : Nat} (h : j < zs.length) : (chL g xs zs).take (j + 1) = (chL g xs zs).take j ++ [chP g xs zs j] := by
  rw [List.take_add_one]
  unfold chL
  rw [List.getElem?_map, List.getElem?_range h]
  rfl
theorem chL_len (g : Int) (xs : List UInt8) (zs : List Int) : (chL g xs zs).length = zs.length := by simp [chL]
theorem chL_at {g : Int} {xs : List UInt8} {zs : List Int} {j : Nat} (h : j < zs.length) : (chL g xs zs)[j]? = some (chP g xs zs j) := by
  unfold chL
  rw [List.getElem?_map, List.getElem?_range h]
  rfl
/-- An extent's bytes, before the sum and behind it; its pages. -/
def exP0 (v : List UInt8) (n : Nat) : List UInt8 := (rwHd 79 3 (n : Int) (v.length : Int) ++ v) ++ List.replicate (256 * n - (16 + v.length)) 0
def exA (v : List UInt8) (n : Nat) : List UInt8 := sealB (exP0 v n) 4
def exP (v : List UInt8) (n j : Nat) : List UInt8 := ((exA v n).drop (256 * j)).take 256
def exL (v : List UInt8) (n : Nat) : List (List UInt8) := (List.range n).map (exP v n)
theorem exL_len (v : List UInt8) (n : Nat) : (exL v n).length = n := by simp [exL]
theorem exL_at {v : List UInt8} {n j : Nat} (h : j < n) : (exL v n)[j]? = some (exP v n j) := by
  unfold exL
  rw [List.getElem?_map, List.getElem?_range h]
  rfl
theorem exHd_len (n m : Int) : (rwHd 79 3 n m).length = 16 := by
  have h := (hd_len 79 3 n m (by omega)).1
  rw [h]
  rfl
theorem exP0_len {v : List UInt8} {n : Nat} (h : 16 + v.length ≤ 256 * n) : (exP0 v n).length = 256 * n := by
  unfold exP0
  rw [List.length_append, List.length_append, exHd_len, List.length_replicate]
  omega
theorem exA_len {v : List UInt8} {n : Nat} (h : 16 + v.length ≤ 256 * n) : (exA v n).length = 256 * n := by
  unfold exA
  rw [sealB_length, exP0_len h]
/-- A value's pages, or why there are none. -/
def ovE (g : Int) (v : List UInt8) (zs : List Int) : Int := if mayB g zs (ovM g v.length) = true then 0 else 1
def ovL (g : Int) (v : List UInt8) (zs : List Int) : List (List UInt8) := if ovE g v zs = 0 then (if sgB g = true then chL g v zs else exL v zs.length) else []
theorem ovL_len {g : Int} {v : List UInt8} {zs : List Int} (h : ovE g v zs = 0) : (ovL g v zs).length = zs.length := by
  unfold ovL
  rw [if_pos h]
  split
  · exact chL_len _ _ _
  · exact exL_len _ _
theorem ovE_may {g : Int} {v : List UInt8} {zs : List Int} : ovE g v zs = 0 ↔ mayB g zs (ovM g v.length) = true := by
  unfold ovE
  constructor
  · intro h
    split at h
    · assumption
    · omega
  · intro h
    rw [if_pos h]
theorem may_many {g : Int} {zs : List Int} {many : Int} (h : mayB g zs many = true) : 0 < many ∧ (zs.length : Int) = many ∧ ∀ i, i < zs.length → mayAt g zs i = true := by
  unfold mayB at h
  rw [Bool.and_eq_true, List.all_eq_true] at h
  have h2 := of_decide_eq_true h.2
  exact ⟨h2.1, h2.2, fun i hi => h.1 i (List.mem_range.2 hi)⟩
theorem ovM_in {g m : Int} (h : 0 < ovM g m) : 1 ≤ g ∧ g ≤ 3 ∧ 33 ≤ m ∧ m ≤ 1600 := by
  unfold ovM at h
  split at h
  · omega
  · split at h
    · omega
    · split at h
      · omega
      · omega
theorem ovM_hi (g m : Int) : ovM g m ≤ 7 ∧ 0 ≤ ovM g m := by
  unfold ovM
  split
  · omega
  · split
    · omega
    · split <;> omega
/-- What a reader tells: an error, and bytes. -/
structure RP where
  e : Int → Int → Int
  b : Int → Int → List UInt8
def scOk (r : RP) (g id : Int) : Prop := r.e id 1 = 0 ∧ hE (r.b id 1) = 0 ∧ hC (r.b id 1) ≤ cpI g ∧ (r.b id 1).length = 256 ∧ hG (r.b id 1) = g
instance (r : RP) (g id : Int) : Decidable (scOk r g id) := by unfold scOk; infer_instance
def scV (r : RP) (id : Int) : List UInt8 := (bodyL (r.b id 1)).take (hC (r.b id 1)).toNat
/-- A chain's bytes, and where they are. -/
def scB (r : RP) (g : Int) : Nat → Int → Option (List UInt8 × List Int)
  | 0, _ => some ([], [])
  | k + 1, id => if id = 0 then some ([], []) else if scOk r g id then (scB r g k (hNx (r.b id 1))).map (fun p => (scV r id ++ p.1, id :: p.2)) else none
def exS (r : RP) (id : Int) (many : Nat) : Option (List UInt8 × List Int) :=
  if r.e id many = 0 ∧ hE (r.b id many) = 0 ∧ (r.b id many).length = many * 256 ∧ hNx (r.b id many) ≤ (many : Int) * 256 - 16 then
    some (((r.b id many).drop 16).take (hNx (r.b id many)).toNat, (List.range many).map (fun (k : Nat) => id + (k : Int))) else none
def smAt (r : RP) (zs : List Int) (l : List (List UInt8)) (k : Nat) : Bool := decide (r.e (zs.getD k 0) 1 = 0) && decide (r.b (zs.getD k 0) 1 = l.getD k [])
def smB (r : RP) (zs : List Int) (l : List (List UInt8)) : Bool := (List.range zs.length).all (smAt r zs l)
def dcG (r : RP) (id : Int) : Int := if hE (r.b id 1) = 0 then hG (r.b id 1) else 0
def dcS (r : RP) (g id many : Int) : List UInt8 × List Int := if 0 < many then ((if sgB g = true then scB r g many.toNat id else exS r id many.toNat).getD ([], [])) else ([], [])
def dcOk (r : RP) (id size : Int) : Prop :=
  ovE (dcG r id) (dcS r (dcG r id) id (ovM (dcG r id) size)).1 (dcS r (dcG r id) id (ovM (dcG r id) size)).2 = 0 ∧ ((dcS r (dcG r id) id (ovM (dcG r id) size)).1.length : Int) = size ∧
  smB r (dcS r (dcG r id) id (ovM (dcG r id) size)).2 (ovL (dcG r id) (dcS r (dcG r id) id (ovM (dcG r id) size)).1 (dcS r (dcG r id) id (ovM (dcG r id) size)).2) = true
instance (r : RP) (id size : Int) : Decidable (dcOk r id size) := by unfold dcOk; infer_instance
end Go.Proofs.Ytbjfklgmbeaaoaa
