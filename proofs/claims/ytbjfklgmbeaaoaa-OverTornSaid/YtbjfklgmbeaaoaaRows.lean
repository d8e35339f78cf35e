/-
  No cell of these rows narrows 'for every input' (looked for: loops, veiled, ifaces, maps, wideKeys, modest, calm, conditions, laid).
  DERIVED. THE GIVEN ROWS OF THIS SEAT. 8 by the template 'for every input the law returns true; each argument reads behind the call as it read before'; 0 by the template 'total and deterministic' (their statements: YtbjfklgmbeaaoaaTotals.lean).
  GIVEN WITH THE SEED: the statements are not yours to turn. If you find one false, say at which input.
  Laid BY PROGRAM, IN A SANDBOX (cutbox-rows.mjs): the forced cells as the released guide's own fill.sh prints them over the translation 0c1148f8b44d8976… (all of the seat's roots in one cut). By AI agents, Wed Nov 11 2026. No macro, syntax, notation, axiom, sorry.
-/
import Derived.Test.YtbjfklgmbeaaoaaChecked
import GoSem.Claim
import GoSem.ClaimJoined
import GoSem.ClaimMapViews
import Derived.JoinedTies
import Derived.KernelRfl
namespace Go.Proofs.Ytbjfklgmbeaaoaa
/- THE CELL 'sum', in the pinned program and in every row, IS THE sha256 OF THE DUMP (.gsa) THAT YtbjfklgmbeaaoaaProg.lean LOADS. Nothing in Lean hashes anything: it is a label: what it is worth is what the hold of that sum in a sandbox is worth. -/
noncomputable def Try.pinned : Pinned := { name := "ytbjfklgmbeaaoaa", sum := "0c1148f8b44d8976b7f126e2af7be0d87510c98b77502d58f304b779bc0ccbf7", checked := Try.checked }
namespace Rows
def none {H : Type} : Left H := { results := [], args := [] }

/-- 'regaugelaw08.OverMany': WHATEVER THE INPUT: true; the input reads as it did. -/
def overManySpec : ChangeSpec := { name := "overMany", fn := fun _ => fun
  | [d1, d2] => { results := [.lit (.bool true)], args := [d1, d2] }
  | _ => none }
def overManyRow : OpenClaim := { program := "ytbjfklgmbeaaoaa", sum := "0c1148f8b44d8976b7f126e2af7be0d87510c98b77502d58f304b779bc0ccbf7", func := "regauge/regaugelaw08.OverMany", spec := "overMany", inPlace := ["internal/bytealg.MakeNoZero"], unfollowed := true, recurses := true, apart := false }
def OverManySaid : Prop := overManyRow.holds Try.pinned (OpenSpec.ofChange overManySpec)

/-- ITS FALSE NEIGHBOUR: 'it returns false'. Refute it at one input. -/
def overManyWrong : ChangeSpec := { name := "overMany", fn := fun _ => fun
  | [d1, d2] => { results := [.lit (.bool false)], args := [d1, d2] }
  | _ => none }
def OverManyWrongFalsely : Prop := overManyRow.holds Try.pinned (OpenSpec.ofChange overManyWrong)

/-- 'regaugelaw08.OverDecodes': WHATEVER THE INPUT: true; the input reads as it did. -/
def overDecodesSpec : ChangeSpec := { name := "overDecodes", fn := fun _ => fun
  | [d1, d2, d3] => { results := [.lit (.bool true)], args := [d1, d2, d3] }
  | _ => none }
def overDecodesRow : OpenClaim := { program := "ytbjfklgmbeaaoaa", sum := "0c1148f8b44d8976b7f126e2af7be0d87510c98b77502d58f304b779bc0ccbf7", func := "regauge/regaugelaw08.OverDecodes", spec := "overDecodes", inPlace := ["internal/bytealg.MakeNoZero"], unfollowed := true, recurses := true, apart := false }
def OverDecodesSaid : Prop := overDecodesRow.holds Try.pinned (OpenSpec.ofChange overDecodesSpec)

/-- ITS FALSE NEIGHBOUR: 'it returns false'. Refute it at one input. -/
def overDecodesWrong : ChangeSpec := { name := "overDecodes", fn := fun _ => fun
  | [d1, d2, d3] => { results := [.lit (.bool false)], args := [d1, d2, d3] }
  | _ => none }
def OverDecodesWrongFalsely : Prop := overDecodesRow.holds Try.pinned (OpenSpec.ofChange overDecodesWrong)

/-- 'regaugelaw08.OverTorn': WHATEVER THE INPUT: true; the input reads as it did. -/
def overTornSpec : ChangeSpec := { name := "overTorn", fn := fun _ => fun
  | [d1, d2, d3] => { results := [.lit (.bool true)], args := [d1, d2, d3] }
  | _ => none }
def overTornRow : OpenClaim := { program := "ytbjfklgmbeaaoaa", sum := "0c1148f8b44d8976b7f126e2af7be0d87510c98b77502d58f304b779bc0ccbf7", func := "regauge/regaugelaw08.OverTorn", spec := "overTorn", inPlace := ["internal/bytealg.MakeNoZero"], unfollowed := true, recurses := true, apart := false }
def OverTornSaid : Prop := overTornRow.holds Try.pinned (OpenSpec.ofChange overTornSpec)

/-- ITS FALSE NEIGHBOUR: 'it returns false'. Refute it at one input. -/
def overTornWrong : ChangeSpec := { name := "overTorn", fn := fun _ => fun
  | [d1, d2, d3] => { results := [.lit (.bool false)], args := [d1, d2, d3] }
  | _ => none }
def OverTornWrongFalsely : Prop := overTornRow.holds Try.pinned (OpenSpec.ofChange overTornWrong)

/-- 'regaugelaw08.OverApart': WHATEVER THE INPUT: true; the input reads as it did. -/
def overApartSpec : ChangeSpec := { name := "overApart", fn := fun _ => fun
  | [d1, d2, d3] => { results := [.lit (.bool true)], args := [d1, d2, d3] }
  | _ => none }
def overApartRow : OpenClaim := { program := "ytbjfklgmbeaaoaa", sum := "0c1148f8b44d8976b7f126e2af7be0d87510c98b77502d58f304b779bc0ccbf7", func := "regauge/regaugelaw08.OverApart", spec := "overApart", inPlace := ["internal/bytealg.MakeNoZero"], unfollowed := true, recurses := true, apart := false }
def OverApartSaid : Prop := overApartRow.holds Try.pinned (OpenSpec.ofChange overApartSpec)

/-- ITS FALSE NEIGHBOUR: 'it returns false'. Refute it at one input. -/
def overApartWrong : ChangeSpec := { name := "overApart", fn := fun _ => fun
  | [d1, d2, d3] => { results := [.lit (.bool false)], args := [d1, d2, d3] }
  | _ => none }
def OverApartWrongFalsely : Prop := overApartRow.holds Try.pinned (OpenSpec.ofChange overApartWrong)

/-- 'regaugelaw07.PageHeads': WHATEVER THE INPUT: true; the input reads as it did. -/
def pageHeadsSpec : ChangeSpec := { name := "pageHeads", fn := fun _ => fun
  | [d] => { results := [.lit (.bool true)], args := [d] }
  | _ => none }
def pageHeadsRow : OpenClaim := { program := "ytbjfklgmbeaaoaa", sum := "0c1148f8b44d8976b7f126e2af7be0d87510c98b77502d58f304b779bc0ccbf7", func := "regauge/regaugelaw07.PageHeads", spec := "pageHeads", inPlace := ["internal/bytealg.Compare"], unfollowed := true, recurses := true, apart := false }
def PageHeadsSaid : Prop := pageHeadsRow.holds Try.pinned (OpenSpec.ofChange pageHeadsSpec)

/-- ITS FALSE NEIGHBOUR: 'it returns false'. Refute it at one input. -/
def pageHeadsWrong : ChangeSpec := { name := "pageHeads", fn := fun _ => fun
  | [d] => { results := [.lit (.bool false)], args := [d] }
  | _ => none }
def PageHeadsWrongFalsely : Prop := pageHeadsRow.holds Try.pinned (OpenSpec.ofChange pageHeadsWrong)

/-- 'regaugelaw07.PageEncodes': WHATEVER THE INPUT: true; the input reads as it did. -/
def pageEncodesSpec : ChangeSpec := { name := "pageEncodes", fn := fun _ => fun
  | [d1, d2] => { results := [.lit (.bool true)], args := [d1, d2] }
  | _ => none }
def pageEncodesRow : OpenClaim := { program := "ytbjfklgmbeaaoaa", sum := "0c1148f8b44d8976b7f126e2af7be0d87510c98b77502d58f304b779bc0ccbf7", func := "regauge/regaugelaw07.PageEncodes", spec := "pageEncodes", inPlace := ["internal/bytealg.Compare"], unfollowed := true, recurses := true, apart := false }
def PageEncodesSaid : Prop := pageEncodesRow.holds Try.pinned (OpenSpec.ofChange pageEncodesSpec)

/-- ITS FALSE NEIGHBOUR: 'it returns false'. Refute it at one input. -/
def pageEncodesWrong : ChangeSpec := { name := "pageEncodes", fn := fun _ => fun
  | [d1, d2] => { results := [.lit (.bool false)], args := [d1, d2] }
  | _ => none }
def PageEncodesWrongFalsely : Prop := pageEncodesRow.holds Try.pinned (OpenSpec.ofChange pageEncodesWrong)

/-- 'regaugelaw07.PageGens': WHATEVER THE INPUT: true; the input reads as it did. -/
def pageGensSpec : ChangeSpec := { name := "pageGens", fn := fun _ => fun
  | [d1, d2, d3] => { results := [.lit (.bool true)], args := [d1, d2, d3] }
  | _ => none }
def pageGensRow : OpenClaim := { program := "ytbjfklgmbeaaoaa", sum := "0c1148f8b44d8976b7f126e2af7be0d87510c98b77502d58f304b779bc0ccbf7", func := "regauge/regaugelaw07.PageGens", spec := "pageGens", inPlace := ["internal/bytealg.Compare"], unfollowed := true, recurses := true, apart := false }
def PageGensSaid : Prop := pageGensRow.holds Try.pinned (OpenSpec.ofChange pageGensSpec)

/-- ITS FALSE NEIGHBOUR: 'it returns false'. Refute it at one input. -/
def pageGensWrong : ChangeSpec := { name := "pageGens", fn := fun _ => fun
  | [d1, d2, d3] => { results := [.lit (.bool false)], args := [d1, d2, d3] }
  | _ => none }
def PageGensWrongFalsely : Prop := pageGensRow.holds Try.pinned (OpenSpec.ofChange pageGensWrong)

/-- 'regaugelaw07.PageWraps': WHATEVER THE INPUT: true; the input reads as it did. -/
def pageWrapsSpec : ChangeSpec := { name := "pageWraps", fn := fun _ => fun
  | [d1, d2] => { results := [.lit (.bool true)], args := [d1, d2] }
  | _ => none }
def pageWrapsRow : OpenClaim := { program := "ytbjfklgmbeaaoaa", sum := "0c1148f8b44d8976b7f126e2af7be0d87510c98b77502d58f304b779bc0ccbf7", func := "regauge/regaugelaw07.PageWraps", spec := "pageWraps", inPlace := ["internal/bytealg.Compare"], unfollowed := true, recurses := true, apart := false }
def PageWrapsSaid : Prop := pageWrapsRow.holds Try.pinned (OpenSpec.ofChange pageWrapsSpec)

/-- ITS FALSE NEIGHBOUR: 'it returns false'. Refute it at one input. -/
def pageWrapsWrong : ChangeSpec := { name := "pageWraps", fn := fun _ => fun
  | [d1, d2] => { results := [.lit (.bool false)], args := [d1, d2] }
  | _ => none }
def PageWrapsWrongFalsely : Prop := pageWrapsRow.holds Try.pinned (OpenSpec.ofChange pageWrapsWrong)

/- THE SECOND FORM. 'bulk': how many values and letters a reading holds, each counted each time it is reached (what is shared counts as often as it is met; a slice's spare places count too). A statement '..UptoSaid' is the law's where the arguments, and the package variables that the reading takes, are together of bulk at most 1048576: NARROWER than '..Said'. Prove '..Said' where nothing that the law and all that it calls make is longer than what came in: it says more and counts as full. Else prove '..UptoSaid'. A law counts once. -/
mutual
def uptoBulk {H : Type} : DataW H → Nat
  | .lit (.string bytes) => bytes.length + 1
  | .lit _ => 1
  | .nil => 1
  | .ptr d => uptoBulk d + 1
  | .slice elems spare => uptoBulkAll elems + uptoBulkAll spare + 1
  | .agg parts => uptoBulkAll parts + 1
  | .iface _ d => uptoBulk d + 1
  | .map entries => uptoBulkEntries entries + 1
  | .held _ => 1
def uptoBulkAll {H : Type} : List (DataW H) → Nat
  | [] => 0
  | d :: r => uptoBulk d + uptoBulkAll r
def uptoBulkEntries {H : Type} : List (Lit × DataW H) → Nat
  | [] => 0
  | x :: r => uptoBulkEntry x + uptoBulkEntries r
def uptoBulkEntry {H : Type} : Lit × DataW H → Nat
  | (.string bytes, d) => bytes.length + uptoBulk d + 1
  | (_, d) => uptoBulk d + 1
 end
def uptoSmall : (H : Type) → List (DataW H) → Bool := fun _ ds => decide (uptoBulkAll ds ≤ 1048576)
def OpenSpec.upto (s : _root_.Go.ChangeSpec) : _root_.Go.OpenSpec := { _root_.Go.OpenSpec.ofChange s with cond := some uptoSmall }

/-- 'regaugelaw08.OverMany', WHERE WHAT IT READS IS OF BULK AT MOST 1048576: true; the input reads as it did. -/
def overManyUptoRow : OpenClaim := { program := "ytbjfklgmbeaaoaa", sum := "0c1148f8b44d8976b7f126e2af7be0d87510c98b77502d58f304b779bc0ccbf7", func := "regauge/regaugelaw08.OverMany", spec := "overMany", inPlace := ["internal/bytealg.MakeNoZero"], unfollowed := true, recurses := true, apart := false, narrowed := true }
def OverManyUptoSaid : Prop := overManyUptoRow.holds Try.pinned (OpenSpec.upto overManySpec)

/-- 'regaugelaw08.OverDecodes', WHERE WHAT IT READS IS OF BULK AT MOST 1048576: true; the input reads as it did. -/
def overDecodesUptoRow : OpenClaim := { program := "ytbjfklgmbeaaoaa", sum := "0c1148f8b44d8976b7f126e2af7be0d87510c98b77502d58f304b779bc0ccbf7", func := "regauge/regaugelaw08.OverDecodes", spec := "overDecodes", inPlace := ["internal/bytealg.MakeNoZero"], unfollowed := true, recurses := true, apart := false, narrowed := true }
def OverDecodesUptoSaid : Prop := overDecodesUptoRow.holds Try.pinned (OpenSpec.upto overDecodesSpec)

/-- 'regaugelaw08.OverTorn', WHERE WHAT IT READS IS OF BULK AT MOST 1048576: true; the input reads as it did. -/
def overTornUptoRow : OpenClaim := { program := "ytbjfklgmbeaaoaa", sum := "0c1148f8b44d8976b7f126e2af7be0d87510c98b77502d58f304b779bc0ccbf7", func := "regauge/regaugelaw08.OverTorn", spec := "overTorn", inPlace := ["internal/bytealg.MakeNoZero"], unfollowed := true, recurses := true, apart := false, narrowed := true }
def OverTornUptoSaid : Prop := overTornUptoRow.holds Try.pinned (OpenSpec.upto overTornSpec)

/-- 'regaugelaw08.OverApart', WHERE WHAT IT READS IS OF BULK AT MOST 1048576: true; the input reads as it did. -/
def overApartUptoRow : OpenClaim := { program := "ytbjfklgmbeaaoaa", sum := "0c1148f8b44d8976b7f126e2af7be0d87510c98b77502d58f304b779bc0ccbf7", func := "regauge/regaugelaw08.OverApart", spec := "overApart", inPlace := ["internal/bytealg.MakeNoZero"], unfollowed := true, recurses := true, apart := false, narrowed := true }
def OverApartUptoSaid : Prop := overApartUptoRow.holds Try.pinned (OpenSpec.upto overApartSpec)

/-- 'regaugelaw07.PageHeads', WHERE WHAT IT READS IS OF BULK AT MOST 1048576: true; the input reads as it did. -/
def pageHeadsUptoRow : OpenClaim := { program := "ytbjfklgmbeaaoaa", sum := "0c1148f8b44d8976b7f126e2af7be0d87510c98b77502d58f304b779bc0ccbf7", func := "regauge/regaugelaw07.PageHeads", spec := "pageHeads", inPlace := ["internal/bytealg.Compare"], unfollowed := true, recurses := true, apart := false, narrowed := true }
def PageHeadsUptoSaid : Prop := pageHeadsUptoRow.holds Try.pinned (OpenSpec.upto pageHeadsSpec)

/-- 'regaugelaw07.PageEncodes', WHERE WHAT IT READS IS OF BULK AT MOST 1048576: true; the input reads as it did. -/
def pageEncodesUptoRow : OpenClaim := { program := "ytbjfklgmbeaaoaa", sum := "0c1148f8b44d8976b7f126e2af7be0d87510c98b77502d58f304b779bc0ccbf7", func := "regauge/regaugelaw07.PageEncodes", spec := "pageEncodes", inPlace := ["internal/bytealg.Compare"], unfollowed := true, recurses := true, apart := false, narrowed := true }
def PageEncodesUptoSaid : Prop := pageEncodesUptoRow.holds Try.pinned (OpenSpec.upto pageEncodesSpec)

/-- 'regaugelaw07.PageGens', WHERE WHAT IT READS IS OF BULK AT MOST 1048576: true; the input reads as it did. -/
def pageGensUptoRow : OpenClaim := { program := "ytbjfklgmbeaaoaa", sum := "0c1148f8b44d8976b7f126e2af7be0d87510c98b77502d58f304b779bc0ccbf7", func := "regauge/regaugelaw07.PageGens", spec := "pageGens", inPlace := ["internal/bytealg.Compare"], unfollowed := true, recurses := true, apart := false, narrowed := true }
def PageGensUptoSaid : Prop := pageGensUptoRow.holds Try.pinned (OpenSpec.upto pageGensSpec)

/-- 'regaugelaw07.PageWraps', WHERE WHAT IT READS IS OF BULK AT MOST 1048576: true; the input reads as it did. -/
def pageWrapsUptoRow : OpenClaim := { program := "ytbjfklgmbeaaoaa", sum := "0c1148f8b44d8976b7f126e2af7be0d87510c98b77502d58f304b779bc0ccbf7", func := "regauge/regaugelaw07.PageWraps", spec := "pageWraps", inPlace := ["internal/bytealg.Compare"], unfollowed := true, recurses := true, apart := false, narrowed := true }
def PageWrapsUptoSaid : Prop := pageWrapsUptoRow.holds Try.pinned (OpenSpec.upto pageWrapsSpec)

end Rows
end Go.Proofs.Ytbjfklgmbeaaoaa
