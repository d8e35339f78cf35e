/-
  No cell of these rows narrows 'for every input' (looked for: loops, veiled, ifaces, maps, wideKeys, modest, calm, conditions, laid).
  DERIVED. THE GIVEN ROWS OF THIS SEAT. 6 by the template 'for every input the law returns true; each argument reads behind the call as it read before'; 0 by the template 'total and deterministic' (their statements: YtenibcbodjkglaaTotals.lean).
  GIVEN WITH THE SEED: the statements are not yours to turn. If you find one false, say at which input.
  Laid BY PROGRAM, IN A SANDBOX (cutbox-rows.mjs): the forced cells as the released guide's own fill.sh prints them over the translation f8293e2ae711d81a… (all of the seat's roots in one cut). By AI agents, Wed Nov 11 2026. No macro, syntax, notation, axiom, sorry.
-/
import Derived.Test.YtenibcbodjkglaaChecked
import GoSem.Claim
import GoSem.ClaimJoined
import GoSem.ClaimMapViews
import Derived.JoinedTies
import Derived.KernelRfl
namespace Go.Proofs.Ytenibcbodjkglaa
/- THE CELL 'sum', in the pinned program and in every row, IS THE sha256 OF THE DUMP (.gsa) THAT YtenibcbodjkglaaProg.lean LOADS. Nothing in Lean hashes anything: it is a label: what it is worth is what the hold of that sum in a sandbox is worth. -/
noncomputable def Try.pinned : Pinned := { name := "ytenibcbodjkglaa", sum := "f8293e2ae711d81ab69628195dac6268bd6d8370e1414e76244bdee74704f453", checked := Try.checked }
namespace Rows
def none {H : Type} : Left H := { results := [], args := [] }

/-- 'regaugelaw09.MetaEncodes': WHATEVER THE INPUT: true; the input reads as it did. -/
def metaEncodesSpec : ChangeSpec := { name := "metaEncodes", fn := fun _ => fun
  | [d] => { results := [.lit (.bool true)], args := [d] }
  | _ => none }
def metaEncodesRow : OpenClaim := { program := "ytenibcbodjkglaa", sum := "f8293e2ae711d81ab69628195dac6268bd6d8370e1414e76244bdee74704f453", func := "regauge/regaugelaw09.MetaEncodes", spec := "metaEncodes", unfollowed := true, recurses := true, apart := false }
def MetaEncodesSaid : Prop := metaEncodesRow.holds Try.pinned (OpenSpec.ofChange metaEncodesSpec)

/-- ITS FALSE NEIGHBOUR: 'it returns false'. Refute it at one input. -/
def metaEncodesWrong : ChangeSpec := { name := "metaEncodes", fn := fun _ => fun
  | [d] => { results := [.lit (.bool false)], args := [d] }
  | _ => none }
def MetaEncodesWrongFalsely : Prop := metaEncodesRow.holds Try.pinned (OpenSpec.ofChange metaEncodesWrong)

/-- 'regaugelaw09.MetaDecodes': WHATEVER THE INPUT: true; the input reads as it did. -/
def metaDecodesSpec : ChangeSpec := { name := "metaDecodes", fn := fun _ => fun
  | [d] => { results := [.lit (.bool true)], args := [d] }
  | _ => none }
def metaDecodesRow : OpenClaim := { program := "ytenibcbodjkglaa", sum := "f8293e2ae711d81ab69628195dac6268bd6d8370e1414e76244bdee74704f453", func := "regauge/regaugelaw09.MetaDecodes", spec := "metaDecodes", unfollowed := true, recurses := true, apart := false }
def MetaDecodesSaid : Prop := metaDecodesRow.holds Try.pinned (OpenSpec.ofChange metaDecodesSpec)

/-- ITS FALSE NEIGHBOUR: 'it returns false'. Refute it at one input. -/
def metaDecodesWrong : ChangeSpec := { name := "metaDecodes", fn := fun _ => fun
  | [d] => { results := [.lit (.bool false)], args := [d] }
  | _ => none }
def MetaDecodesWrongFalsely : Prop := metaDecodesRow.holds Try.pinned (OpenSpec.ofChange metaDecodesWrong)

/-- 'regaugelaw09.MetaChooses': WHATEVER THE INPUT: true; the input reads as it did. -/
def metaChoosesSpec : ChangeSpec := { name := "metaChooses", fn := fun _ => fun
  | [d1, d2] => { results := [.lit (.bool true)], args := [d1, d2] }
  | _ => none }
def metaChoosesRow : OpenClaim := { program := "ytenibcbodjkglaa", sum := "f8293e2ae711d81ab69628195dac6268bd6d8370e1414e76244bdee74704f453", func := "regauge/regaugelaw09.MetaChooses", spec := "metaChooses", unfollowed := true, recurses := true, apart := false }
def MetaChoosesSaid : Prop := metaChoosesRow.holds Try.pinned (OpenSpec.ofChange metaChoosesSpec)

/-- ITS FALSE NEIGHBOUR: 'it returns false'. Refute it at one input. -/
def metaChoosesWrong : ChangeSpec := { name := "metaChooses", fn := fun _ => fun
  | [d1, d2] => { results := [.lit (.bool false)], args := [d1, d2] }
  | _ => none }
def MetaChoosesWrongFalsely : Prop := metaChoosesRow.holds Try.pinned (OpenSpec.ofChange metaChoosesWrong)

/-- 'regaugelaw09.MetaSame': WHATEVER THE INPUT: true; the input reads as it did. -/
def metaSameSpec : ChangeSpec := { name := "metaSame", fn := fun _ => fun
  | [d1, d2] => { results := [.lit (.bool true)], args := [d1, d2] }
  | _ => none }
def metaSameRow : OpenClaim := { program := "ytenibcbodjkglaa", sum := "f8293e2ae711d81ab69628195dac6268bd6d8370e1414e76244bdee74704f453", func := "regauge/regaugelaw09.MetaSame", spec := "metaSame", unfollowed := true, recurses := true, apart := false }
def MetaSameSaid : Prop := metaSameRow.holds Try.pinned (OpenSpec.ofChange metaSameSpec)

/-- ITS FALSE NEIGHBOUR: 'it returns false'. Refute it at one input. -/
def metaSameWrong : ChangeSpec := { name := "metaSame", fn := fun _ => fun
  | [d1, d2] => { results := [.lit (.bool false)], args := [d1, d2] }
  | _ => none }
def MetaSameWrongFalsely : Prop := metaSameRow.holds Try.pinned (OpenSpec.ofChange metaSameWrong)

/-- 'regaugelaw09.MetaZeros': WHATEVER THE INPUT: true; the input reads as it did. -/
def metaZerosSpec : ChangeSpec := { name := "metaZeros", fn := fun _ => fun
  | [d1, d2] => { results := [.lit (.bool true)], args := [d1, d2] }
  | _ => none }
def metaZerosRow : OpenClaim := { program := "ytenibcbodjkglaa", sum := "f8293e2ae711d81ab69628195dac6268bd6d8370e1414e76244bdee74704f453", func := "regauge/regaugelaw09.MetaZeros", spec := "metaZeros", unfollowed := true, recurses := true, apart := false }
def MetaZerosSaid : Prop := metaZerosRow.holds Try.pinned (OpenSpec.ofChange metaZerosSpec)

/-- ITS FALSE NEIGHBOUR: 'it returns false'. Refute it at one input. -/
def metaZerosWrong : ChangeSpec := { name := "metaZeros", fn := fun _ => fun
  | [d1, d2] => { results := [.lit (.bool false)], args := [d1, d2] }
  | _ => none }
def MetaZerosWrongFalsely : Prop := metaZerosRow.holds Try.pinned (OpenSpec.ofChange metaZerosWrong)

/-- 'regaugelaw09.MetaNewer': WHATEVER THE INPUT: true; the input reads as it did. -/
def metaNewerSpec : ChangeSpec := { name := "metaNewer", fn := fun _ => fun
  | [d1, d2] => { results := [.lit (.bool true)], args := [d1, d2] }
  | _ => none }
def metaNewerRow : OpenClaim := { program := "ytenibcbodjkglaa", sum := "f8293e2ae711d81ab69628195dac6268bd6d8370e1414e76244bdee74704f453", func := "regauge/regaugelaw09.MetaNewer", spec := "metaNewer", unfollowed := true, recurses := true, apart := false }
def MetaNewerSaid : Prop := metaNewerRow.holds Try.pinned (OpenSpec.ofChange metaNewerSpec)

/-- ITS FALSE NEIGHBOUR: 'it returns false'. Refute it at one input. -/
def metaNewerWrong : ChangeSpec := { name := "metaNewer", fn := fun _ => fun
  | [d1, d2] => { results := [.lit (.bool false)], args := [d1, d2] }
  | _ => none }
def MetaNewerWrongFalsely : Prop := metaNewerRow.holds Try.pinned (OpenSpec.ofChange metaNewerWrong)

/- THE SECOND FORM. 'bulk': how many values and letters a reading holds, each counted each time it is reached (what is shared counts as often as it is met; a slice's spare places count too). A statement '..UptoSaid' is the law's where the arguments, and the package variables that the reading takes, are together of bulk at most 1048576: NARROWER than '..Said'. Prove '..Said' where nothing that the law and all that it calls make is longer than what came in: it says more and counts as full. Else prove '..UptoSaid'. A law counts once. -/
mutual
def uptoBulk {H : Type} : DataW H → Nat
  | .lit (.string bytes) => bytes.length + 1
  | .lit _ => 1
  | .nil => 1
  | .ptr d => uptoBulk d + 1
  | .slice elems spare => uptoBulkAll elems + uptoBulkAll spare + 1
  | .agg parts => uptoBulkAll parts + 1
  | .iface _ d => uptoBulk d + 1
  | .map entries => uptoBulkEntries entries + 1
  | .held _ => 1
def uptoBulkAll {H : Type} : List (DataW H) → Nat
  | [] => 0
  | d :: r => uptoBulk d + uptoBulkAll r
def uptoBulkEntries {H : Type} : List (Lit × DataW H) → Nat
  | [] => 0
  | x :: r => uptoBulkEntry x + uptoBulkEntries r
def uptoBulkEntry {H : Type} : Lit × DataW H → Nat
  | (.string bytes, d) => bytes.length + uptoBulk d + 1
  | (_, d) => uptoBulk d + 1
 end
def uptoSmall : (H : Type) → List (DataW H) → Bool := fun _ ds => decide (uptoBulkAll ds ≤ 1048576)
def OpenSpec.upto (s : _root_.Go.ChangeSpec) : _root_.Go.OpenSpec := { _root_.Go.OpenSpec.ofChange s with cond := some uptoSmall }

/-- 'regaugelaw09.MetaEncodes', WHERE WHAT IT READS IS OF BULK AT MOST 1048576: true; the input reads as it did. -/
def metaEncodesUptoRow : OpenClaim := { program := "ytenibcbodjkglaa", sum := "f8293e2ae711d81ab69628195dac6268bd6d8370e1414e76244bdee74704f453", func := "regauge/regaugelaw09.MetaEncodes", spec := "metaEncodes", unfollowed := true, recurses := true, apart := false, narrowed := true }
def MetaEncodesUptoSaid : Prop := metaEncodesUptoRow.holds Try.pinned (OpenSpec.upto metaEncodesSpec)

/-- 'regaugelaw09.MetaDecodes', WHERE WHAT IT READS IS OF BULK AT MOST 1048576: true; the input reads as it did. -/
def metaDecodesUptoRow : OpenClaim := { program := "ytenibcbodjkglaa", sum := "f8293e2ae711d81ab69628195dac6268bd6d8370e1414e76244bdee74704f453", func := "regauge/regaugelaw09.MetaDecodes", spec := "metaDecodes", unfollowed := true, recurses := true, apart := false, narrowed := true }
def MetaDecodesUptoSaid : Prop := metaDecodesUptoRow.holds Try.pinned (OpenSpec.upto metaDecodesSpec)

/-- 'regaugelaw09.MetaChooses', WHERE WHAT IT READS IS OF BULK AT MOST 1048576: true; the input reads as it did. -/
def metaChoosesUptoRow : OpenClaim := { program := "ytenibcbodjkglaa", sum := "f8293e2ae711d81ab69628195dac6268bd6d8370e1414e76244bdee74704f453", func := "regauge/regaugelaw09.MetaChooses", spec := "metaChooses", unfollowed := true, recurses := true, apart := false, narrowed := true }
def MetaChoosesUptoSaid : Prop := metaChoosesUptoRow.holds Try.pinned (OpenSpec.upto metaChoosesSpec)

/-- 'regaugelaw09.MetaSame', WHERE WHAT IT READS IS OF BULK AT MOST 1048576: true; the input reads as it did. -/
def metaSameUptoRow : OpenClaim := { program := "ytenibcbodjkglaa", sum := "f8293e2ae711d81ab69628195dac6268bd6d8370e1414e76244bdee74704f453", func := "regauge/regaugelaw09.MetaSame", spec := "metaSame", unfollowed := true, recurses := true, apart := false, narrowed := true }
def MetaSameUptoSaid : Prop := metaSameUptoRow.holds Try.pinned (OpenSpec.upto metaSameSpec)

/-- 'regaugelaw09.MetaZeros', WHERE WHAT IT READS IS OF BULK AT MOST 1048576: true; the input reads as it did. -/
def metaZerosUptoRow : OpenClaim := { program := "ytenibcbodjkglaa", sum := "f8293e2ae711d81ab69628195dac6268bd6d8370e1414e76244bdee74704f453", func := "regauge/regaugelaw09.MetaZeros", spec := "metaZeros", unfollowed := true, recurses := true, apart := false, narrowed := true }
def MetaZerosUptoSaid : Prop := metaZerosUptoRow.holds Try.pinned (OpenSpec.upto metaZerosSpec)

/-- 'regaugelaw09.MetaNewer', WHERE WHAT IT READS IS OF BULK AT MOST 1048576: true; the input reads as it did. -/
def metaNewerUptoRow : OpenClaim := { program := "ytenibcbodjkglaa", sum := "f8293e2ae711d81ab69628195dac6268bd6d8370e1414e76244bdee74704f453", func := "regauge/regaugelaw09.MetaNewer", spec := "metaNewer", unfollowed := true, recurses := true, apart := false, narrowed := true }
def MetaNewerUptoSaid : Prop := metaNewerUptoRow.holds Try.pinned (OpenSpec.upto metaNewerSpec)

end Rows
end Go.Proofs.Ytenibcbodjkglaa
