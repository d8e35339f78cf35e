/- What law12's alive finds: the plain facts. -/
import Derived.Test.YthhalmjapiempaaN9
set_option linter.unusedVariables false
set_option linter.unusedSimpArgs false
namespace Go.Proofs.Ythhalmjapiempaa
open Go.RowKit

def newDV (limit : Int) : DV := ⟨limI limit, [], [], 0, -1, false⟩
theorem newDV_up (limit : Int) : Up (newDV limit) := ⟨newD_ok _ (limI_le limit).1 (limI_le limit).2 _ _ (show 0 = 0 / 64 * 64 from rfl), rfl, rfl⟩
def mAt (t : Int) : MV := ⟨1, 0, 0, t, 2, 3, 0, []⟩
def bA : List UInt8 := List.replicate 256 7
def lA : List (Int × List UInt8) := [(2, bA)]
theorem bA_len : bA.length = 256 := List.length_replicate ..
theorem lA_in : InP 3 lA := inP_one bA_len (by decide) (by decide)
def dFm : DV := (formatS (newDV 100) lA (mAt 2)).2
def dCm : DV := (commitS dFm lA (mAt 3)).2
theorem rA2 : prgB lA (mAt 2) = true := by decide +kernel
theorem rA3 : prgB lA (mAt 3) = true := by decide +kernel
theorem dFm_ok : (formatS (newDV 100) lA (mAt 2)).1 = 0 ∧ Up dFm ∧ nD dFm = 12 ∧ dFm.ops = 4 ∧ dFm.limit = 100 ∧ dFm.row = [] ∧ pgB (imD dFm) 0 = encM (mAt 2) := by
  obtain ⟨k1, k2, k3, _, _⟩ := format_ok (newDV_up 100) rA2 (by decide) (by decide)
  have e1 : (4 * (mAt 2).pg.toNat - nD (newDV 100)) = 12 := by decide
  have kr := k2.row
  refine ⟨k1, k2.up, ?_, ?_, ?_, (by unfold dFm; exact kr), ?_⟩
  · show nD (formatS (newDV 100) lA (mAt 2)).2 = 12
    rw [k2.n, e1]
    decide
  · unfold dFm
    rw [k2.ops]
    decide
  · unfold dFm
    rw [k2.lim]
    decide
  · show pgB (imD (formatS (newDV 100) lA (mAt 2)).2) 0 = encM (mAt 2)
    rw [show ((mAt 2).tx % 2).toNat = 0 by decide] at k3
    exact k3
theorem dCm_ok : (commitS dFm lA (mAt 3)).1 = 0 ∧ Up dCm ∧ nD dCm = 12 ∧ dCm.ops = 9 ∧ dCm.limit = 100 ∧ dCm.row = [] ∧ pgB (imD dCm) 1 = encM (mAt 3) ∧ pgB (imD dCm) 0 = encM (mAt 2) ∧ pgB (imD dCm) 2 = bA := by
  obtain ⟨_, f1, f2, f3, f4, _, f5⟩ := dFm_ok
  have hl : 4 * (mAt 3).pg ≤ dFm.limit := by rw [f4]; decide
  obtain ⟨k1, k2, k3, k4⟩ := commit_ok f1 rA3 hl
  have hz : 64 * (4 * (mAt 3).pg.toNat - nD dFm) = 0 := by rw [f2]; decide
  rw [show ((mAt 3).tx % 2).toNat = 1 by decide] at k3 k4
  have kr := k2.row
  refine ⟨k1, k2.up, ?_, ?_, ?_, (by unfold dCm; exact kr), k3, ?_, ?_⟩
  · show nD (commitS dFm lA (mAt 3)).2 = 12
    rw [k2.n, f2]; rfl
  · unfold dCm
    rw [k2.ops, f3]; decide
  · unfold dCm
    rw [k2.lim, f4]
  · have := k4 0 (by decide) ((prgB_in rA3).2 0 (by decide))
    rw [hz, List.replicate_zero, List.append_nil] at this
    exact this.trans f5
  · show pgB (imD (commitS dFm lA (mAt 3)).2) 2 = bA
    have hx : 256 * 3 ≤ (imD dFm ++ List.replicate (64 * (4 * (mAt 3).pg.toNat - nD dFm)) 0).length := by rw [hz, List.replicate_zero, List.append_nil, imD_len f1.ok, f2]; decide
    have i1 : InP 3 [((mAt 3).tx % 2, List.replicate 256 (0 : UInt8))] := inP_one (by rw [List.length_replicate]) (by decide) (by decide)
    have he := encM_len (right_of rA3)
    have i3 : InP 3 [((mAt 3).tx % 2, encM (mAt 3))] := inP_one he (by decide) (by decide)
    have x1 := imS_len _ _ hx i1
    have x2 := imS_len _ _ (by rw [x1]; exact hx) lA_in
    have x3 := imS_len _ _ (by rw [x2, x1]; exact hx) (inP_sync 3 0)
    have x4 := imS_len _ _ (by rw [x3, x2, x1]; exact hx) i3
    rw [k2.im, commit_form, imS_app, imS_away (n := 3) _ _ _ (by rw [imS_app, imS_app, imS_app, x4, x3, x2, x1]; exact hx) (inP_sync 3 0) (away_sync _ _), imS_app, imS_away (n := 3) _ _ _ (by rw [imS_app, imS_app, x3, x2, x1]; exact hx) i3 (away_one he (by decide)), imS_app, imS_away (n := 3) _ _ _ (by rw [imS_app, x2, x1]; exact hx) (inP_sync 3 0) (away_sync _ _), imS_app]
    unfold lA
    rw [imS_one _ _ _ (by rw [bA_len]; decide), show (2 : Int).toNat = 2 from rfl, pgB_in _ _ _ (by rw [bA_len, x1]; omega) bA_len]
theorem newA_ok : newAt dCm = 1 ∧ newE dCm = 0 ∧ newM dCm = mAt 3 := by
  obtain ⟨_, f1, f2, f3, f4, f6, f7, f8, f9⟩ := dCm_ok
  refine newest_at f1.ok f1.up (by rw [f2]; decide) (right_of rA3) f7 (fun _ _ => ?_)
  show rdTx (pgB (imD dCm) 0) < 3
  rw [f8, (encM_dec (right_of rA2)).2.2]
  decide
theorem pagesA : someB dCm 2 1 = bA ∧ someE dCm 2 1 = 0 ∧ someE dCm 3 1 = 11 := by
  obtain ⟨_, f1, f2, f3, f4, f6, f7, f8, f9⟩ := dCm_ok
  obtain ⟨s1, s2⟩ := some_page f1.ok f1.up 2 (by rw [f2]; decide) (by decide)
  refine ⟨s1.trans f9, s2, ?_⟩
  unfold someE
  rw [if_neg (by decide)]
  unfold readE
  rw [if_neg (by rw [f1.up]; decide), f2, if_neg (by decide)]
end Go.Proofs.Ythhalmjapiempaa
