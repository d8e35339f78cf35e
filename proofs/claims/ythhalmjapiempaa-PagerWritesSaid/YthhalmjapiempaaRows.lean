/-
  No cell of these rows narrows 'for every input' (looked for: loops, veiled, ifaces, maps, wideKeys, modest, calm, conditions, laid).
  DERIVED. THE GIVEN ROWS OF THIS SEAT. 6 by the template 'for every input the law returns true; each argument reads behind the call as it read before'; 0 by the template 'total and deterministic' (their statements: YthhalmjapiempaaTotals.lean).
  GIVEN WITH THE SEED: the statements are not yours to turn. If you find one false, say at which input.
  Laid BY PROGRAM, IN A SANDBOX (cutbox-rows.mjs): the forced cells as the released guide's own fill.sh prints them over the translation 8d8b5ea0122f1409… (all of the seat's roots in one cut). By AI agents, Wed Nov 11 2026. No macro, syntax, notation, axiom, sorry.
-/
import Derived.Test.YthhalmjapiempaaChecked
import GoSem.Claim
import GoSem.ClaimJoined
import GoSem.ClaimMapViews
import Derived.JoinedTies
import Derived.KernelRfl
namespace Go.Proofs.Ythhalmjapiempaa
/- THE CELL 'sum', in the pinned program and in every row, IS THE sha256 OF THE DUMP (.gsa) THAT YthhalmjapiempaaProg.lean LOADS. Nothing in Lean hashes anything: it is a label: what it is worth is what the hold of that sum in a sandbox is worth. -/
noncomputable def Try.pinned : Pinned := { name := "ythhalmjapiempaa", sum := "8d8b5ea0122f1409ab3c34d2bc8ef61eb1c66dcd096a3a91aa8a8b6c4d99d5a6", checked := Try.checked }
namespace Rows
def none {H : Type} : Left H := { results := [], args := [] }

/-- 'regaugelaw12.PagerTwo': WHATEVER THE INPUT: true; the input reads as it did. -/
def pagerTwoSpec : ChangeSpec := { name := "pagerTwo", fn := fun _ => fun
  | [d1, d2, d3] => { results := [.lit (.bool true)], args := [d1, d2, d3] }
  | _ => none }
def pagerTwoRow : OpenClaim := { program := "ythhalmjapiempaa", sum := "8d8b5ea0122f1409ab3c34d2bc8ef61eb1c66dcd096a3a91aa8a8b6c4d99d5a6", func := "regauge/regaugelaw12.PagerTwo", spec := "pagerTwo", inPlace := ["internal/bytealg.MakeNoZero"], unfollowed := true, recurses := true, apart := false }
def PagerTwoSaid : Prop := pagerTwoRow.holds Try.pinned (OpenSpec.ofChange pagerTwoSpec)

/-- ITS FALSE NEIGHBOUR: 'it returns false'. Refute it at one input. -/
def pagerTwoWrong : ChangeSpec := { name := "pagerTwo", fn := fun _ => fun
  | [d1, d2, d3] => { results := [.lit (.bool false)], args := [d1, d2, d3] }
  | _ => none }
def PagerTwoWrongFalsely : Prop := pagerTwoRow.holds Try.pinned (OpenSpec.ofChange pagerTwoWrong)

/-- 'regaugelaw12.PagerWrites': WHATEVER THE INPUT: true; the input reads as it did. -/
def pagerWritesSpec : ChangeSpec := { name := "pagerWrites", fn := fun _ => fun
  | [d1, d2, d3] => { results := [.lit (.bool true)], args := [d1, d2, d3] }
  | _ => none }
def pagerWritesRow : OpenClaim := { program := "ythhalmjapiempaa", sum := "8d8b5ea0122f1409ab3c34d2bc8ef61eb1c66dcd096a3a91aa8a8b6c4d99d5a6", func := "regauge/regaugelaw12.PagerWrites", spec := "pagerWrites", inPlace := ["internal/bytealg.MakeNoZero"], unfollowed := true, recurses := true, apart := false }
def PagerWritesSaid : Prop := pagerWritesRow.holds Try.pinned (OpenSpec.ofChange pagerWritesSpec)

/-- ITS FALSE NEIGHBOUR: 'it returns false'. Refute it at one input. -/
def pagerWritesWrong : ChangeSpec := { name := "pagerWrites", fn := fun _ => fun
  | [d1, d2, d3] => { results := [.lit (.bool false)], args := [d1, d2, d3] }
  | _ => none }
def PagerWritesWrongFalsely : Prop := pagerWritesRow.holds Try.pinned (OpenSpec.ofChange pagerWritesWrong)

/-- 'regaugelaw12.PagerRight': WHATEVER THE INPUT: true; the input reads as it did. -/
def pagerRightSpec : ChangeSpec := { name := "pagerRight", fn := fun _ => fun
  | [d1, d2, d3] => { results := [.lit (.bool true)], args := [d1, d2, d3] }
  | _ => none }
def pagerRightRow : OpenClaim := { program := "ythhalmjapiempaa", sum := "8d8b5ea0122f1409ab3c34d2bc8ef61eb1c66dcd096a3a91aa8a8b6c4d99d5a6", func := "regauge/regaugelaw12.PagerRight", spec := "pagerRight", inPlace := ["internal/bytealg.MakeNoZero"], unfollowed := true, recurses := true, apart := false }
def PagerRightSaid : Prop := pagerRightRow.holds Try.pinned (OpenSpec.ofChange pagerRightSpec)

/-- ITS FALSE NEIGHBOUR: 'it returns false'. Refute it at one input. -/
def pagerRightWrong : ChangeSpec := { name := "pagerRight", fn := fun _ => fun
  | [d1, d2, d3] => { results := [.lit (.bool false)], args := [d1, d2, d3] }
  | _ => none }
def PagerRightWrongFalsely : Prop := pagerRightRow.holds Try.pinned (OpenSpec.ofChange pagerRightWrong)

/-- 'regaugelaw12.PagerFull': WHATEVER THE INPUT: true; the input reads as it did. -/
def pagerFullSpec : ChangeSpec := { name := "pagerFull", fn := fun _ => fun
  | [d1, d2, d3] => { results := [.lit (.bool true)], args := [d1, d2, d3] }
  | _ => none }
def pagerFullRow : OpenClaim := { program := "ythhalmjapiempaa", sum := "8d8b5ea0122f1409ab3c34d2bc8ef61eb1c66dcd096a3a91aa8a8b6c4d99d5a6", func := "regauge/regaugelaw12.PagerFull", spec := "pagerFull", inPlace := ["internal/bytealg.MakeNoZero"], unfollowed := true, recurses := true, apart := false }
def PagerFullSaid : Prop := pagerFullRow.holds Try.pinned (OpenSpec.ofChange pagerFullSpec)

/-- ITS FALSE NEIGHBOUR: 'it returns false'. Refute it at one input. -/
def pagerFullWrong : ChangeSpec := { name := "pagerFull", fn := fun _ => fun
  | [d1, d2, d3] => { results := [.lit (.bool false)], args := [d1, d2, d3] }
  | _ => none }
def PagerFullWrongFalsely : Prop := pagerFullRow.holds Try.pinned (OpenSpec.ofChange pagerFullWrong)

/-- 'regaugelaw12.PagerReads': WHATEVER THE INPUT: true; the input reads as it did. -/
def pagerReadsSpec : ChangeSpec := { name := "pagerReads", fn := fun _ => fun
  | [d1, d2, d3] => { results := [.lit (.bool true)], args := [d1, d2, d3] }
  | _ => none }
def pagerReadsRow : OpenClaim := { program := "ythhalmjapiempaa", sum := "8d8b5ea0122f1409ab3c34d2bc8ef61eb1c66dcd096a3a91aa8a8b6c4d99d5a6", func := "regauge/regaugelaw12.PagerReads", spec := "pagerReads", inPlace := ["internal/bytealg.MakeNoZero"], unfollowed := true, recurses := true, apart := false }
def PagerReadsSaid : Prop := pagerReadsRow.holds Try.pinned (OpenSpec.ofChange pagerReadsSpec)

/-- ITS FALSE NEIGHBOUR: 'it returns false'. Refute it at one input. -/
def pagerReadsWrong : ChangeSpec := { name := "pagerReads", fn := fun _ => fun
  | [d1, d2, d3] => { results := [.lit (.bool false)], args := [d1, d2, d3] }
  | _ => none }
def PagerReadsWrongFalsely : Prop := pagerReadsRow.holds Try.pinned (OpenSpec.ofChange pagerReadsWrong)

/-- 'regaugelaw12.PagerAgain': WHATEVER THE INPUT: true; the input reads as it did. -/
def pagerAgainSpec : ChangeSpec := { name := "pagerAgain", fn := fun _ => fun
  | [d1, d2, d3] => { results := [.lit (.bool true)], args := [d1, d2, d3] }
  | _ => none }
def pagerAgainRow : OpenClaim := { program := "ythhalmjapiempaa", sum := "8d8b5ea0122f1409ab3c34d2bc8ef61eb1c66dcd096a3a91aa8a8b6c4d99d5a6", func := "regauge/regaugelaw12.PagerAgain", spec := "pagerAgain", inPlace := ["internal/bytealg.MakeNoZero"], unfollowed := true, recurses := true, apart := false }
def PagerAgainSaid : Prop := pagerAgainRow.holds Try.pinned (OpenSpec.ofChange pagerAgainSpec)

/-- ITS FALSE NEIGHBOUR: 'it returns false'. Refute it at one input. -/
def pagerAgainWrong : ChangeSpec := { name := "pagerAgain", fn := fun _ => fun
  | [d1, d2, d3] => { results := [.lit (.bool false)], args := [d1, d2, d3] }
  | _ => none }
def PagerAgainWrongFalsely : Prop := pagerAgainRow.holds Try.pinned (OpenSpec.ofChange pagerAgainWrong)

/- THE SECOND FORM. 'bulk': how many values and letters a reading holds, each counted each time it is reached (what is shared counts as often as it is met; a slice's spare places count too). A statement '..UptoSaid' is the law's where the arguments, and the package variables that the reading takes, are together of bulk at most 1048576: NARROWER than '..Said'. Prove '..Said' where nothing that the law and all that it calls make is longer than what came in: it says more and counts as full. Else prove '..UptoSaid'. A law counts once. -/
mutual
def uptoBulk {H : Type} : DataW H → Nat
  | .lit (.string bytes) => bytes.length + 1
  | .lit _ => 1
  | .nil => 1
  | .ptr d => uptoBulk d + 1
  | .slice elems spare => uptoBulkAll elems + uptoBulkAll spare + 1
  | .agg parts => uptoBulkAll parts + 1
  | .iface _ d => uptoBulk d + 1
  | .map entries => uptoBulkEntries entries + 1
  | .held _ => 1
def uptoBulkAll {H : Type} : List (DataW H) → Nat
  | [] => 0
  | d :: r => uptoBulk d + uptoBulkAll r
def uptoBulkEntries {H : Type} : List (Lit × DataW H) → Nat
  | [] => 0
  | x :: r => uptoBulkEntry x + uptoBulkEntries r
def uptoBulkEntry {H : Type} : Lit × DataW H → Nat
  | (.string bytes, d) => bytes.length + uptoBulk d + 1
  | (_, d) => uptoBulk d + 1
 end
def uptoSmall : (H : Type) → List (DataW H) → Bool := fun _ ds => decide (uptoBulkAll ds ≤ 1048576)
def OpenSpec.upto (s : _root_.Go.ChangeSpec) : _root_.Go.OpenSpec := { _root_.Go.OpenSpec.ofChange s with cond := some uptoSmall }

/-- 'regaugelaw12.PagerTwo', WHERE WHAT IT READS IS OF BULK AT MOST 1048576: true; the input reads as it did. -/
def pagerTwoUptoRow : OpenClaim := { program := "ythhalmjapiempaa", sum := "8d8b5ea0122f1409ab3c34d2bc8ef61eb1c66dcd096a3a91aa8a8b6c4d99d5a6", func := "regauge/regaugelaw12.PagerTwo", spec := "pagerTwo", inPlace := ["internal/bytealg.MakeNoZero"], unfollowed := true, recurses := true, apart := false, narrowed := true }
def PagerTwoUptoSaid : Prop := pagerTwoUptoRow.holds Try.pinned (OpenSpec.upto pagerTwoSpec)

/-- 'regaugelaw12.PagerWrites', WHERE WHAT IT READS IS OF BULK AT MOST 1048576: true; the input reads as it did. -/
def pagerWritesUptoRow : OpenClaim := { program := "ythhalmjapiempaa", sum := "8d8b5ea0122f1409ab3c34d2bc8ef61eb1c66dcd096a3a91aa8a8b6c4d99d5a6", func := "regauge/regaugelaw12.PagerWrites", spec := "pagerWrites", inPlace := ["internal/bytealg.MakeNoZero"], unfollowed := true, recurses := true, apart := false, narrowed := true }
def PagerWritesUptoSaid : Prop := pagerWritesUptoRow.holds Try.pinned (OpenSpec.upto pagerWritesSpec)

/-- 'regaugelaw12.PagerRight', WHERE WHAT IT READS IS OF BULK AT MOST 1048576: true; the input reads as it did. -/
def pagerRightUptoRow : OpenClaim := { program := "ythhalmjapiempaa", sum := "8d8b5ea0122f1409ab3c34d2bc8ef61eb1c66dcd096a3a91aa8a8b6c4d99d5a6", func := "regauge/regaugelaw12.PagerRight", spec := "pagerRight", inPlace := ["internal/bytealg.MakeNoZero"], unfollowed := true, recurses := true, apart := false, narrowed := true }
def PagerRightUptoSaid : Prop := pagerRightUptoRow.holds Try.pinned (OpenSpec.upto pagerRightSpec)

/-- 'regaugelaw12.PagerFull', WHERE WHAT IT READS IS OF BULK AT MOST 1048576: true; the input reads as it did. -/
def pagerFullUptoRow : OpenClaim := { program := "ythhalmjapiempaa", sum := "8d8b5ea0122f1409ab3c34d2bc8ef61eb1c66dcd096a3a91aa8a8b6c4d99d5a6", func := "regauge/regaugelaw12.PagerFull", spec := "pagerFull", inPlace := ["internal/bytealg.MakeNoZero"], unfollowed := true, recurses := true, apart := false, narrowed := true }
def PagerFullUptoSaid : Prop := pagerFullUptoRow.holds Try.pinned (OpenSpec.upto pagerFullSpec)

/-- 'regaugelaw12.PagerReads', WHERE WHAT IT READS IS OF BULK AT MOST 1048576: true; the input reads as it did. -/
def pagerReadsUptoRow : OpenClaim := { program := "ythhalmjapiempaa", sum := "8d8b5ea0122f1409ab3c34d2bc8ef61eb1c66dcd096a3a91aa8a8b6c4d99d5a6", func := "regauge/regaugelaw12.PagerReads", spec := "pagerReads", inPlace := ["internal/bytealg.MakeNoZero"], unfollowed := true, recurses := true, apart := false, narrowed := true }
def PagerReadsUptoSaid : Prop := pagerReadsUptoRow.holds Try.pinned (OpenSpec.upto pagerReadsSpec)

/-- 'regaugelaw12.PagerAgain', WHERE WHAT IT READS IS OF BULK AT MOST 1048576: true; the input reads as it did. -/
def pagerAgainUptoRow : OpenClaim := { program := "ythhalmjapiempaa", sum := "8d8b5ea0122f1409ab3c34d2bc8ef61eb1c66dcd096a3a91aa8a8b6c4d99d5a6", func := "regauge/regaugelaw12.PagerAgain", spec := "pagerAgain", inPlace := ["internal/bytealg.MakeNoZero"], unfollowed := true, recurses := true, apart := false, narrowed := true }
def PagerAgainUptoSaid : Prop := pagerAgainUptoRow.holds Try.pinned (OpenSpec.upto pagerAgainSpec)

end Rows
end Go.Proofs.Ythhalmjapiempaa
