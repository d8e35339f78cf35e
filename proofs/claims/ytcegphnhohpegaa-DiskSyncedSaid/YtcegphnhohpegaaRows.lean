/-
  No cell of these rows narrows 'for every input' (looked for: loops, veiled, ifaces, maps, wideKeys, modest, calm, conditions, laid).
  DERIVED. THE GIVEN ROWS OF THIS SEAT. 4 by the template 'for every input the law returns true; each argument reads behind the call as it read before'; 0 by the template 'total and deterministic' (their statements: YtcegphnhohpegaaTotals.lean).
  GIVEN WITH THE SEED: the statements are not yours to turn. If you find one false, say at which input.
  Laid BY PROGRAM, IN A SANDBOX (cutbox-rows.mjs): the forced cells as the released guide's own fill.sh prints them over the translation ef5153a04987597e… (all of the seat's roots in one cut). By AI agents, Wed Nov 11 2026. No macro, syntax, notation, axiom, sorry.
-/
import Derived.Test.YtcegphnhohpegaaChecked
import GoSem.Claim
import GoSem.ClaimJoined
import GoSem.ClaimMapViews
import Derived.JoinedTies
import Derived.KernelRfl
namespace Go.Proofs.Ytcegphnhohpegaa
/- THE CELL 'sum', in the pinned program and in every row, IS THE sha256 OF THE DUMP (.gsa) THAT YtcegphnhohpegaaProg.lean LOADS. Nothing in Lean hashes anything: it is a label: what it is worth is what the hold of that sum in a sandbox is worth. -/
noncomputable def Try.pinned : Pinned := { name := "ytcegphnhohpegaa", sum := "ef5153a04987597e2c34329188635753fea28db964ab55846dd8e637f909e3e2", checked := Try.checked }
namespace Rows
def none {H : Type} : Left H := { results := [], args := [] }

/-- 'regaugelaw01.DiskSynced': WHATEVER THE INPUT: true; the input reads as it did. -/
def diskSyncedSpec : ChangeSpec := { name := "diskSynced", fn := fun _ => fun
  | [d1, d2, d3] => { results := [.lit (.bool true)], args := [d1, d2, d3] }
  | _ => none }
def diskSyncedRow : OpenClaim := { program := "ytcegphnhohpegaa", sum := "ef5153a04987597e2c34329188635753fea28db964ab55846dd8e637f909e3e2", func := "regauge/regaugelaw01.DiskSynced", spec := "diskSynced", inPlace := ["internal/bytealg.MakeNoZero"], apart := false }
def DiskSyncedSaid : Prop := diskSyncedRow.holds Try.pinned (OpenSpec.ofChange diskSyncedSpec)

/-- ITS FALSE NEIGHBOUR: 'it returns false'. Refute it at one input. -/
def diskSyncedWrong : ChangeSpec := { name := "diskSynced", fn := fun _ => fun
  | [d1, d2, d3] => { results := [.lit (.bool false)], args := [d1, d2, d3] }
  | _ => none }
def DiskSyncedWrongFalsely : Prop := diskSyncedRow.holds Try.pinned (OpenSpec.ofChange diskSyncedWrong)

/-- 'regaugelaw01.DiskFuse': WHATEVER THE INPUT: true; the input reads as it did. -/
def diskFuseSpec : ChangeSpec := { name := "diskFuse", fn := fun _ => fun
  | [d1, d2, d3] => { results := [.lit (.bool true)], args := [d1, d2, d3] }
  | _ => none }
def diskFuseRow : OpenClaim := { program := "ytcegphnhohpegaa", sum := "ef5153a04987597e2c34329188635753fea28db964ab55846dd8e637f909e3e2", func := "regauge/regaugelaw01.DiskFuse", spec := "diskFuse", inPlace := ["internal/bytealg.MakeNoZero"], apart := false }
def DiskFuseSaid : Prop := diskFuseRow.holds Try.pinned (OpenSpec.ofChange diskFuseSpec)

/-- ITS FALSE NEIGHBOUR: 'it returns false'. Refute it at one input. -/
def diskFuseWrong : ChangeSpec := { name := "diskFuse", fn := fun _ => fun
  | [d1, d2, d3] => { results := [.lit (.bool false)], args := [d1, d2, d3] }
  | _ => none }
def DiskFuseWrongFalsely : Prop := diskFuseRow.holds Try.pinned (OpenSpec.ofChange diskFuseWrong)

/-- 'regaugelaw01.DiskPicks': WHATEVER THE INPUT: true; the input reads as it did. -/
def diskPicksSpec : ChangeSpec := { name := "diskPicks", fn := fun _ => fun
  | [d1, d2, d3] => { results := [.lit (.bool true)], args := [d1, d2, d3] }
  | _ => none }
def diskPicksRow : OpenClaim := { program := "ytcegphnhohpegaa", sum := "ef5153a04987597e2c34329188635753fea28db964ab55846dd8e637f909e3e2", func := "regauge/regaugelaw01.DiskPicks", spec := "diskPicks", inPlace := ["internal/bytealg.MakeNoZero"], apart := false }
def DiskPicksSaid : Prop := diskPicksRow.holds Try.pinned (OpenSpec.ofChange diskPicksSpec)

/-- ITS FALSE NEIGHBOUR: 'it returns false'. Refute it at one input. -/
def diskPicksWrong : ChangeSpec := { name := "diskPicks", fn := fun _ => fun
  | [d1, d2, d3] => { results := [.lit (.bool false)], args := [d1, d2, d3] }
  | _ => none }
def DiskPicksWrongFalsely : Prop := diskPicksRow.holds Try.pinned (OpenSpec.ofChange diskPicksWrong)

/-- 'regaugelaw01.DiskKeeps': WHATEVER THE INPUT: true; the input reads as it did. -/
def diskKeepsSpec : ChangeSpec := { name := "diskKeeps", fn := fun _ => fun
  | [d1, d2] => { results := [.lit (.bool true)], args := [d1, d2] }
  | _ => none }
def diskKeepsRow : OpenClaim := { program := "ytcegphnhohpegaa", sum := "ef5153a04987597e2c34329188635753fea28db964ab55846dd8e637f909e3e2", func := "regauge/regaugelaw01.DiskKeeps", spec := "diskKeeps", inPlace := ["internal/bytealg.MakeNoZero"], apart := false }
def DiskKeepsSaid : Prop := diskKeepsRow.holds Try.pinned (OpenSpec.ofChange diskKeepsSpec)

/-- ITS FALSE NEIGHBOUR: 'it returns false'. Refute it at one input. -/
def diskKeepsWrong : ChangeSpec := { name := "diskKeeps", fn := fun _ => fun
  | [d1, d2] => { results := [.lit (.bool false)], args := [d1, d2] }
  | _ => none }
def DiskKeepsWrongFalsely : Prop := diskKeepsRow.holds Try.pinned (OpenSpec.ofChange diskKeepsWrong)

/- THE SECOND FORM. 'bulk': how many values and letters a reading holds, each counted each time it is reached (what is shared counts as often as it is met; a slice's spare places count too). A statement '..UptoSaid' is the law's where the arguments, and the package variables that the reading takes, are together of bulk at most 1048576: NARROWER than '..Said'. Prove '..Said' where nothing that the law and all that it calls make is longer than what came in: it says more and counts as full. Else prove '..UptoSaid'. A law counts once. -/
mutual
def uptoBulk {H : Type} : DataW H → Nat
  | .lit (.string bytes) => bytes.length + 1
  | .lit _ => 1
  | .nil => 1
  | .ptr d => uptoBulk d + 1
  | .slice elems spare => uptoBulkAll elems + uptoBulkAll spare + 1
  | .agg parts => uptoBulkAll parts + 1
  | .iface _ d => uptoBulk d + 1
  | .map entries => uptoBulkEntries entries + 1
  | .held _ => 1
def uptoBulkAll {H : Type} : List (DataW H) → Nat
  | [] => 0
  | d :: r => uptoBulk d + uptoBulkAll r
def uptoBulkEntries {H : Type} : List (Lit × DataW H) → Nat
  | [] => 0
  | x :: r => uptoBulkEntry x + uptoBulkEntries r
def uptoBulkEntry {H : Type} : Lit × DataW H → Nat
  | (.string bytes, d) => bytes.length + uptoBulk d + 1
  | (_, d) => uptoBulk d + 1
 end
def uptoSmall : (H : Type) → List (DataW H) → Bool := fun _ ds => decide (uptoBulkAll ds ≤ 1048576)
def OpenSpec.upto (s : _root_.Go.ChangeSpec) : _root_.Go.OpenSpec := { _root_.Go.OpenSpec.ofChange s with cond := some uptoSmall }

/-- 'regaugelaw01.DiskSynced', WHERE WHAT IT READS IS OF BULK AT MOST 1048576: true; the input reads as it did. -/
def diskSyncedUptoRow : OpenClaim := { program := "ytcegphnhohpegaa", sum := "ef5153a04987597e2c34329188635753fea28db964ab55846dd8e637f909e3e2", func := "regauge/regaugelaw01.DiskSynced", spec := "diskSynced", inPlace := ["internal/bytealg.MakeNoZero"], apart := false, narrowed := true }
def DiskSyncedUptoSaid : Prop := diskSyncedUptoRow.holds Try.pinned (OpenSpec.upto diskSyncedSpec)

/-- 'regaugelaw01.DiskFuse', WHERE WHAT IT READS IS OF BULK AT MOST 1048576: true; the input reads as it did. -/
def diskFuseUptoRow : OpenClaim := { program := "ytcegphnhohpegaa", sum := "ef5153a04987597e2c34329188635753fea28db964ab55846dd8e637f909e3e2", func := "regauge/regaugelaw01.DiskFuse", spec := "diskFuse", inPlace := ["internal/bytealg.MakeNoZero"], apart := false, narrowed := true }
def DiskFuseUptoSaid : Prop := diskFuseUptoRow.holds Try.pinned (OpenSpec.upto diskFuseSpec)

/-- 'regaugelaw01.DiskPicks', WHERE WHAT IT READS IS OF BULK AT MOST 1048576: true; the input reads as it did. -/
def diskPicksUptoRow : OpenClaim := { program := "ytcegphnhohpegaa", sum := "ef5153a04987597e2c34329188635753fea28db964ab55846dd8e637f909e3e2", func := "regauge/regaugelaw01.DiskPicks", spec := "diskPicks", inPlace := ["internal/bytealg.MakeNoZero"], apart := false, narrowed := true }
def DiskPicksUptoSaid : Prop := diskPicksUptoRow.holds Try.pinned (OpenSpec.upto diskPicksSpec)

/-- 'regaugelaw01.DiskKeeps', WHERE WHAT IT READS IS OF BULK AT MOST 1048576: true; the input reads as it did. -/
def diskKeepsUptoRow : OpenClaim := { program := "ytcegphnhohpegaa", sum := "ef5153a04987597e2c34329188635753fea28db964ab55846dd8e637f909e3e2", func := "regauge/regaugelaw01.DiskKeeps", spec := "diskKeeps", inPlace := ["internal/bytealg.MakeNoZero"], apart := false, narrowed := true }
def DiskKeepsUptoSaid : Prop := diskKeepsUptoRow.holds Try.pinned (OpenSpec.upto diskKeepsSpec)

end Rows
end Go.Proofs.Ytcegphnhohpegaa
