/-
  No cell of these rows narrows 'for every input' (looked for: loops, veiled, ifaces, maps, wideKeys, modest, calm, conditions, laid).
  DERIVED. THE GIVEN ROWS OF THIS SEAT. 12 by the template 'for every input the law returns true; each argument reads behind the call as it read before'; 0 by the template 'total and deterministic' (their statements: YtaoaenjhclicfaaTotals.lean).
  GIVEN WITH THE SEED: the statements are not yours to turn. If you find one false, say at which input.
  Laid BY PROGRAM, IN A SANDBOX (cutbox-rows.mjs): the forced cells as the released guide's own fill.sh prints them over the translation d564da0adb7ab290… (all of the seat's roots in one cut). By AI agents, Wed Nov 11 2026. No macro, syntax, notation, axiom, sorry.
-/
import Derived.Test.YtaoaenjhclicfaaChecked
import GoSem.Claim
import GoSem.ClaimJoined
import GoSem.ClaimMapViews
import Derived.JoinedTies
import Derived.KernelRfl
namespace Go.Proofs.Ytaoaenjhclicfaa
/- THE CELL 'sum', in the pinned program and in every row, IS THE sha256 OF THE DUMP (.gsa) THAT YtaoaenjhclicfaaProg.lean LOADS. Nothing in Lean hashes anything: it is a label: what it is worth is what the hold of that sum in a sandbox is worth. -/
noncomputable def Try.pinned : Pinned := { name := "ytaoaenjhclicfaa", sum := "d564da0adb7ab2904ed82b1684c8fa4423938fd468cdf19f8d17250853ca3bbc", checked := Try.checked }
namespace Rows
def none {H : Type} : Left H := { results := [], args := [] }

/-- 'regaugelaw02.CrcSums': WHATEVER THE INPUT: true; the input reads as it did. -/
def crcSumsSpec : ChangeSpec := { name := "crcSums", fn := fun _ => fun
  | [d] => { results := [.lit (.bool true)], args := [d] }
  | _ => none }
def crcSumsRow : OpenClaim := { program := "ytaoaenjhclicfaa", sum := "d564da0adb7ab2904ed82b1684c8fa4423938fd468cdf19f8d17250853ca3bbc", func := "regauge/regaugelaw02.CrcSums", spec := "crcSums", apart := false }
def CrcSumsSaid : Prop := crcSumsRow.holds Try.pinned (OpenSpec.ofChange crcSumsSpec)

/-- ITS FALSE NEIGHBOUR: 'it returns false'. Refute it at one input. -/
def crcSumsWrong : ChangeSpec := { name := "crcSums", fn := fun _ => fun
  | [d] => { results := [.lit (.bool false)], args := [d] }
  | _ => none }
def CrcSumsWrongFalsely : Prop := crcSumsRow.holds Try.pinned (OpenSpec.ofChange crcSumsWrong)

/-- 'regaugelaw02.CrcParts': WHATEVER THE INPUT: true; the input reads as it did. -/
def crcPartsSpec : ChangeSpec := { name := "crcParts", fn := fun _ => fun
  | [d] => { results := [.lit (.bool true)], args := [d] }
  | _ => none }
def crcPartsRow : OpenClaim := { program := "ytaoaenjhclicfaa", sum := "d564da0adb7ab2904ed82b1684c8fa4423938fd468cdf19f8d17250853ca3bbc", func := "regauge/regaugelaw02.CrcParts", spec := "crcParts", apart := false }
def CrcPartsSaid : Prop := crcPartsRow.holds Try.pinned (OpenSpec.ofChange crcPartsSpec)

/-- ITS FALSE NEIGHBOUR: 'it returns false'. Refute it at one input. -/
def crcPartsWrong : ChangeSpec := { name := "crcParts", fn := fun _ => fun
  | [d] => { results := [.lit (.bool false)], args := [d] }
  | _ => none }
def CrcPartsWrongFalsely : Prop := crcPartsRow.holds Try.pinned (OpenSpec.ofChange crcPartsWrong)

/-- 'regaugelaw02.CrcBits': WHATEVER THE INPUT: true; the input reads as it did. -/
def crcBitsSpec : ChangeSpec := { name := "crcBits", fn := fun _ => fun
  | [d1, d2, d3] => { results := [.lit (.bool true)], args := [d1, d2, d3] }
  | _ => none }
def crcBitsRow : OpenClaim := { program := "ytaoaenjhclicfaa", sum := "d564da0adb7ab2904ed82b1684c8fa4423938fd468cdf19f8d17250853ca3bbc", func := "regauge/regaugelaw02.CrcBits", spec := "crcBits", apart := false }
def CrcBitsSaid : Prop := crcBitsRow.holds Try.pinned (OpenSpec.ofChange crcBitsSpec)

/-- ITS FALSE NEIGHBOUR: 'it returns false'. Refute it at one input. -/
def crcBitsWrong : ChangeSpec := { name := "crcBits", fn := fun _ => fun
  | [d1, d2, d3] => { results := [.lit (.bool false)], args := [d1, d2, d3] }
  | _ => none }
def CrcBitsWrongFalsely : Prop := crcBitsRow.holds Try.pinned (OpenSpec.ofChange crcBitsWrong)

/-- 'regaugelaw02.CrcLinear': WHATEVER THE INPUT: true; the input reads as it did. -/
def crcLinearSpec : ChangeSpec := { name := "crcLinear", fn := fun _ => fun
  | [d1, d2] => { results := [.lit (.bool true)], args := [d1, d2] }
  | _ => none }
def crcLinearRow : OpenClaim := { program := "ytaoaenjhclicfaa", sum := "d564da0adb7ab2904ed82b1684c8fa4423938fd468cdf19f8d17250853ca3bbc", func := "regauge/regaugelaw02.CrcLinear", spec := "crcLinear", apart := false }
def CrcLinearSaid : Prop := crcLinearRow.holds Try.pinned (OpenSpec.ofChange crcLinearSpec)

/-- ITS FALSE NEIGHBOUR: 'it returns false'. Refute it at one input. -/
def crcLinearWrong : ChangeSpec := { name := "crcLinear", fn := fun _ => fun
  | [d1, d2] => { results := [.lit (.bool false)], args := [d1, d2] }
  | _ => none }
def CrcLinearWrongFalsely : Prop := crcLinearRow.holds Try.pinned (OpenSpec.ofChange crcLinearWrong)

/-- 'regaugelaw02.CrcSeals': WHATEVER THE INPUT: true; the input reads as it did. -/
def crcSealsSpec : ChangeSpec := { name := "crcSeals", fn := fun _ => fun
  | [d1, d2] => { results := [.lit (.bool true)], args := [d1, d2] }
  | _ => none }
def crcSealsRow : OpenClaim := { program := "ytaoaenjhclicfaa", sum := "d564da0adb7ab2904ed82b1684c8fa4423938fd468cdf19f8d17250853ca3bbc", func := "regauge/regaugelaw02.CrcSeals", spec := "crcSeals", apart := false }
def CrcSealsSaid : Prop := crcSealsRow.holds Try.pinned (OpenSpec.ofChange crcSealsSpec)

/-- ITS FALSE NEIGHBOUR: 'it returns false'. Refute it at one input. -/
def crcSealsWrong : ChangeSpec := { name := "crcSeals", fn := fun _ => fun
  | [d1, d2] => { results := [.lit (.bool false)], args := [d1, d2] }
  | _ => none }
def CrcSealsWrongFalsely : Prop := crcSealsRow.holds Try.pinned (OpenSpec.ofChange crcSealsWrong)

/-- 'regaugelaw03.FieldFits': WHATEVER THE INPUT: true; the input reads as it did. -/
def fieldFitsSpec : ChangeSpec := { name := "fieldFits", fn := fun _ => fun
  | [d1, d2] => { results := [.lit (.bool true)], args := [d1, d2] }
  | _ => none }
def fieldFitsRow : OpenClaim := { program := "ytaoaenjhclicfaa", sum := "d564da0adb7ab2904ed82b1684c8fa4423938fd468cdf19f8d17250853ca3bbc", func := "regauge/regaugelaw03.FieldFits", spec := "fieldFits", unfollowed := true, recurses := true, apart := false }
def FieldFitsSaid : Prop := fieldFitsRow.holds Try.pinned (OpenSpec.ofChange fieldFitsSpec)

/-- ITS FALSE NEIGHBOUR: 'it returns false'. Refute it at one input. -/
def fieldFitsWrong : ChangeSpec := { name := "fieldFits", fn := fun _ => fun
  | [d1, d2] => { results := [.lit (.bool false)], args := [d1, d2] }
  | _ => none }
def FieldFitsWrongFalsely : Prop := fieldFitsRow.holds Try.pinned (OpenSpec.ofChange fieldFitsWrong)

/-- 'regaugelaw05.ItemTraits': WHATEVER THE INPUT: true; the input reads as it did. -/
def itemTraitsSpec : ChangeSpec := { name := "itemTraits", fn := fun _ => fun
  | [d] => { results := [.lit (.bool true)], args := [d] }
  | _ => none }
def itemTraitsRow : OpenClaim := { program := "ytaoaenjhclicfaa", sum := "d564da0adb7ab2904ed82b1684c8fa4423938fd468cdf19f8d17250853ca3bbc", func := "regauge/regaugelaw05.ItemTraits", spec := "itemTraits", inPlace := ["internal/bytealg.Compare"], apart := false }
def ItemTraitsSaid : Prop := itemTraitsRow.holds Try.pinned (OpenSpec.ofChange itemTraitsSpec)

/-- ITS FALSE NEIGHBOUR: 'it returns false'. Refute it at one input. -/
def itemTraitsWrong : ChangeSpec := { name := "itemTraits", fn := fun _ => fun
  | [d] => { results := [.lit (.bool false)], args := [d] }
  | _ => none }
def ItemTraitsWrongFalsely : Prop := itemTraitsRow.holds Try.pinned (OpenSpec.ofChange itemTraitsWrong)

/-- 'regaugelaw05.ItemRooms': WHATEVER THE INPUT: true; the input reads as it did. -/
def itemRoomsSpec : ChangeSpec := { name := "itemRooms", fn := fun _ => fun
  | [d1, d2] => { results := [.lit (.bool true)], args := [d1, d2] }
  | _ => none }
def itemRoomsRow : OpenClaim := { program := "ytaoaenjhclicfaa", sum := "d564da0adb7ab2904ed82b1684c8fa4423938fd468cdf19f8d17250853ca3bbc", func := "regauge/regaugelaw05.ItemRooms", spec := "itemRooms", inPlace := ["internal/bytealg.Compare"], apart := false }
def ItemRoomsSaid : Prop := itemRoomsRow.holds Try.pinned (OpenSpec.ofChange itemRoomsSpec)

/-- ITS FALSE NEIGHBOUR: 'it returns false'. Refute it at one input. -/
def itemRoomsWrong : ChangeSpec := { name := "itemRooms", fn := fun _ => fun
  | [d1, d2] => { results := [.lit (.bool false)], args := [d1, d2] }
  | _ => none }
def ItemRoomsWrongFalsely : Prop := itemRoomsRow.holds Try.pinned (OpenSpec.ofChange itemRoomsWrong)

/-- 'regaugelaw05.ItemOrders': WHATEVER THE INPUT: true; the input reads as it did. -/
def itemOrdersSpec : ChangeSpec := { name := "itemOrders", fn := fun _ => fun
  | [d1, d2, d3] => { results := [.lit (.bool true)], args := [d1, d2, d3] }
  | _ => none }
def itemOrdersRow : OpenClaim := { program := "ytaoaenjhclicfaa", sum := "d564da0adb7ab2904ed82b1684c8fa4423938fd468cdf19f8d17250853ca3bbc", func := "regauge/regaugelaw05.ItemOrders", spec := "itemOrders", inPlace := ["internal/bytealg.Compare"], apart := false }
def ItemOrdersSaid : Prop := itemOrdersRow.holds Try.pinned (OpenSpec.ofChange itemOrdersSpec)

/-- ITS FALSE NEIGHBOUR: 'it returns false'. Refute it at one input. -/
def itemOrdersWrong : ChangeSpec := { name := "itemOrders", fn := fun _ => fun
  | [d1, d2, d3] => { results := [.lit (.bool false)], args := [d1, d2, d3] }
  | _ => none }
def ItemOrdersWrongFalsely : Prop := itemOrdersRow.holds Try.pinned (OpenSpec.ofChange itemOrdersWrong)

/-- 'regaugelaw05.ItemOwn': WHATEVER THE INPUT: true; the input reads as it did. -/
def itemOwnSpec : ChangeSpec := { name := "itemOwn", fn := fun _ => fun
  | [d1, d2] => { results := [.lit (.bool true)], args := [d1, d2] }
  | _ => none }
def itemOwnRow : OpenClaim := { program := "ytaoaenjhclicfaa", sum := "d564da0adb7ab2904ed82b1684c8fa4423938fd468cdf19f8d17250853ca3bbc", func := "regauge/regaugelaw05.ItemOwn", spec := "itemOwn", inPlace := ["internal/bytealg.Compare"], apart := false }
def ItemOwnSaid : Prop := itemOwnRow.holds Try.pinned (OpenSpec.ofChange itemOwnSpec)

/-- ITS FALSE NEIGHBOUR: 'it returns false'. Refute it at one input. -/
def itemOwnWrong : ChangeSpec := { name := "itemOwn", fn := fun _ => fun
  | [d1, d2] => { results := [.lit (.bool false)], args := [d1, d2] }
  | _ => none }
def ItemOwnWrongFalsely : Prop := itemOwnRow.holds Try.pinned (OpenSpec.ofChange itemOwnWrong)

/-- 'regaugelaw12.PagerTwo': WHATEVER THE INPUT: true; the input reads as it did. -/
def pagerTwoSpec : ChangeSpec := { name := "pagerTwo", fn := fun _ => fun
  | [d1, d2, d3] => { results := [.lit (.bool true)], args := [d1, d2, d3] }
  | _ => none }
def pagerTwoRow : OpenClaim := { program := "ytaoaenjhclicfaa", sum := "d564da0adb7ab2904ed82b1684c8fa4423938fd468cdf19f8d17250853ca3bbc", func := "regauge/regaugelaw12.PagerTwo", spec := "pagerTwo", inPlace := ["internal/bytealg.MakeNoZero"], unfollowed := true, recurses := true, apart := false }
def PagerTwoSaid : Prop := pagerTwoRow.holds Try.pinned (OpenSpec.ofChange pagerTwoSpec)

/-- ITS FALSE NEIGHBOUR: 'it returns false'. Refute it at one input. -/
def pagerTwoWrong : ChangeSpec := { name := "pagerTwo", fn := fun _ => fun
  | [d1, d2, d3] => { results := [.lit (.bool false)], args := [d1, d2, d3] }
  | _ => none }
def PagerTwoWrongFalsely : Prop := pagerTwoRow.holds Try.pinned (OpenSpec.ofChange pagerTwoWrong)

/-- 'regaugelaw05.ItemFour': WHATEVER THE INPUT: true; the input reads as it did. -/
def itemFourSpec : ChangeSpec := { name := "itemFour", fn := fun _ => fun
  | [d1, d2] => { results := [.lit (.bool true)], args := [d1, d2] }
  | _ => none }
def itemFourRow : OpenClaim := { program := "ytaoaenjhclicfaa", sum := "d564da0adb7ab2904ed82b1684c8fa4423938fd468cdf19f8d17250853ca3bbc", func := "regauge/regaugelaw05.ItemFour", spec := "itemFour", inPlace := ["internal/bytealg.Compare"], apart := false }
def ItemFourSaid : Prop := itemFourRow.holds Try.pinned (OpenSpec.ofChange itemFourSpec)

/-- ITS FALSE NEIGHBOUR: 'it returns false'. Refute it at one input. -/
def itemFourWrong : ChangeSpec := { name := "itemFour", fn := fun _ => fun
  | [d1, d2] => { results := [.lit (.bool false)], args := [d1, d2] }
  | _ => none }
def ItemFourWrongFalsely : Prop := itemFourRow.holds Try.pinned (OpenSpec.ofChange itemFourWrong)

/- THE SECOND FORM. 'bulk': how many values and letters a reading holds, each counted each time it is reached (what is shared counts as often as it is met; a slice's spare places count too). A statement '..UptoSaid' is the law's where the arguments, and the package variables that the reading takes, are together of bulk at most 1048576: NARROWER than '..Said'. Prove '..Said' where nothing that the law and all that it calls make is longer than what came in: it says more and counts as full. Else prove '..UptoSaid'. A law counts once. -/
mutual
def uptoBulk {H : Type} : DataW H → Nat
  | .lit (.string bytes) => bytes.length + 1
  | .lit _ => 1
  | .nil => 1
  | .ptr d => uptoBulk d + 1
  | .slice elems spare => uptoBulkAll elems + uptoBulkAll spare + 1
  | .agg parts => uptoBulkAll parts + 1
  | .iface _ d => uptoBulk d + 1
  | .map entries => uptoBulkEntries entries + 1
  | .held _ => 1
def uptoBulkAll {H : Type} : List (DataW H) → Nat
  | [] => 0
  | d :: r => uptoBulk d + uptoBulkAll r
def uptoBulkEntries {H : Type} : List (Lit × DataW H) → Nat
  | [] => 0
  | x :: r => uptoBulkEntry x + uptoBulkEntries r
def uptoBulkEntry {H : Type} : Lit × DataW H → Nat
  | (.string bytes, d) => bytes.length + uptoBulk d + 1
  | (_, d) => uptoBulk d + 1
 end
def uptoSmall : (H : Type) → List (DataW H) → Bool := fun _ ds => decide (uptoBulkAll ds ≤ 1048576)
def OpenSpec.upto (s : _root_.Go.ChangeSpec) : _root_.Go.OpenSpec := { _root_.Go.OpenSpec.ofChange s with cond := some uptoSmall }

/-- 'regaugelaw02.CrcSums', WHERE WHAT IT READS IS OF BULK AT MOST 1048576: true; the input reads as it did. -/
def crcSumsUptoRow : OpenClaim := { program := "ytaoaenjhclicfaa", sum := "d564da0adb7ab2904ed82b1684c8fa4423938fd468cdf19f8d17250853ca3bbc", func := "regauge/regaugelaw02.CrcSums", spec := "crcSums", apart := false, narrowed := true }
def CrcSumsUptoSaid : Prop := crcSumsUptoRow.holds Try.pinned (OpenSpec.upto crcSumsSpec)

/-- 'regaugelaw02.CrcParts', WHERE WHAT IT READS IS OF BULK AT MOST 1048576: true; the input reads as it did. -/
def crcPartsUptoRow : OpenClaim := { program := "ytaoaenjhclicfaa", sum := "d564da0adb7ab2904ed82b1684c8fa4423938fd468cdf19f8d17250853ca3bbc", func := "regauge/regaugelaw02.CrcParts", spec := "crcParts", apart := false, narrowed := true }
def CrcPartsUptoSaid : Prop := crcPartsUptoRow.holds Try.pinned (OpenSpec.upto crcPartsSpec)

/-- 'regaugelaw02.CrcBits', WHERE WHAT IT READS IS OF BULK AT MOST 1048576: true; the input reads as it did. -/
def crcBitsUptoRow : OpenClaim := { program := "ytaoaenjhclicfaa", sum := "d564da0adb7ab2904ed82b1684c8fa4423938fd468cdf19f8d17250853ca3bbc", func := "regauge/regaugelaw02.CrcBits", spec := "crcBits", apart := false, narrowed := true }
def CrcBitsUptoSaid : Prop := crcBitsUptoRow.holds Try.pinned (OpenSpec.upto crcBitsSpec)

/-- 'regaugelaw02.CrcLinear', WHERE WHAT IT READS IS OF BULK AT MOST 1048576: true; the input reads as it did. -/
def crcLinearUptoRow : OpenClaim := { program := "ytaoaenjhclicfaa", sum := "d564da0adb7ab2904ed82b1684c8fa4423938fd468cdf19f8d17250853ca3bbc", func := "regauge/regaugelaw02.CrcLinear", spec := "crcLinear", apart := false, narrowed := true }
def CrcLinearUptoSaid : Prop := crcLinearUptoRow.holds Try.pinned (OpenSpec.upto crcLinearSpec)

/-- 'regaugelaw02.CrcSeals', WHERE WHAT IT READS IS OF BULK AT MOST 1048576: true; the input reads as it did. -/
def crcSealsUptoRow : OpenClaim := { program := "ytaoaenjhclicfaa", sum := "d564da0adb7ab2904ed82b1684c8fa4423938fd468cdf19f8d17250853ca3bbc", func := "regauge/regaugelaw02.CrcSeals", spec := "crcSeals", apart := false, narrowed := true }
def CrcSealsUptoSaid : Prop := crcSealsUptoRow.holds Try.pinned (OpenSpec.upto crcSealsSpec)

/-- 'regaugelaw03.FieldFits', WHERE WHAT IT READS IS OF BULK AT MOST 1048576: true; the input reads as it did. -/
def fieldFitsUptoRow : OpenClaim := { program := "ytaoaenjhclicfaa", sum := "d564da0adb7ab2904ed82b1684c8fa4423938fd468cdf19f8d17250853ca3bbc", func := "regauge/regaugelaw03.FieldFits", spec := "fieldFits", unfollowed := true, recurses := true, apart := false, narrowed := true }
def FieldFitsUptoSaid : Prop := fieldFitsUptoRow.holds Try.pinned (OpenSpec.upto fieldFitsSpec)

/-- 'regaugelaw05.ItemTraits', WHERE WHAT IT READS IS OF BULK AT MOST 1048576: true; the input reads as it did. -/
def itemTraitsUptoRow : OpenClaim := { program := "ytaoaenjhclicfaa", sum := "d564da0adb7ab2904ed82b1684c8fa4423938fd468cdf19f8d17250853ca3bbc", func := "regauge/regaugelaw05.ItemTraits", spec := "itemTraits", inPlace := ["internal/bytealg.Compare"], apart := false, narrowed := true }
def ItemTraitsUptoSaid : Prop := itemTraitsUptoRow.holds Try.pinned (OpenSpec.upto itemTraitsSpec)

/-- 'regaugelaw05.ItemRooms', WHERE WHAT IT READS IS OF BULK AT MOST 1048576: true; the input reads as it did. -/
def itemRoomsUptoRow : OpenClaim := { program := "ytaoaenjhclicfaa", sum := "d564da0adb7ab2904ed82b1684c8fa4423938fd468cdf19f8d17250853ca3bbc", func := "regauge/regaugelaw05.ItemRooms", spec := "itemRooms", inPlace := ["internal/bytealg.Compare"], apart := false, narrowed := true }
def ItemRoomsUptoSaid : Prop := itemRoomsUptoRow.holds Try.pinned (OpenSpec.upto itemRoomsSpec)

/-- 'regaugelaw05.ItemOrders', WHERE WHAT IT READS IS OF BULK AT MOST 1048576: true; the input reads as it did. -/
def itemOrdersUptoRow : OpenClaim := { program := "ytaoaenjhclicfaa", sum := "d564da0adb7ab2904ed82b1684c8fa4423938fd468cdf19f8d17250853ca3bbc", func := "regauge/regaugelaw05.ItemOrders", spec := "itemOrders", inPlace := ["internal/bytealg.Compare"], apart := false, narrowed := true }
def ItemOrdersUptoSaid : Prop := itemOrdersUptoRow.holds Try.pinned (OpenSpec.upto itemOrdersSpec)

/-- 'regaugelaw05.ItemOwn', WHERE WHAT IT READS IS OF BULK AT MOST 1048576: true; the input reads as it did. -/
def itemOwnUptoRow : OpenClaim := { program := "ytaoaenjhclicfaa", sum := "d564da0adb7ab2904ed82b1684c8fa4423938fd468cdf19f8d17250853ca3bbc", func := "regauge/regaugelaw05.ItemOwn", spec := "itemOwn", inPlace := ["internal/bytealg.Compare"], apart := false, narrowed := true }
def ItemOwnUptoSaid : Prop := itemOwnUptoRow.holds Try.pinned (OpenSpec.upto itemOwnSpec)

/-- 'regaugelaw12.PagerTwo', WHERE WHAT IT READS IS OF BULK AT MOST 1048576: true; the input reads as it did. -/
def pagerTwoUptoRow : OpenClaim := { program := "ytaoaenjhclicfaa", sum := "d564da0adb7ab2904ed82b1684c8fa4423938fd468cdf19f8d17250853ca3bbc", func := "regauge/regaugelaw12.PagerTwo", spec := "pagerTwo", inPlace := ["internal/bytealg.MakeNoZero"], unfollowed := true, recurses := true, apart := false, narrowed := true }
def PagerTwoUptoSaid : Prop := pagerTwoUptoRow.holds Try.pinned (OpenSpec.upto pagerTwoSpec)

/-- 'regaugelaw05.ItemFour', WHERE WHAT IT READS IS OF BULK AT MOST 1048576: true; the input reads as it did. -/
def itemFourUptoRow : OpenClaim := { program := "ytaoaenjhclicfaa", sum := "d564da0adb7ab2904ed82b1684c8fa4423938fd468cdf19f8d17250853ca3bbc", func := "regauge/regaugelaw05.ItemFour", spec := "itemFour", inPlace := ["internal/bytealg.Compare"], apart := false, narrowed := true }
def ItemFourUptoSaid : Prop := itemFourUptoRow.holds Try.pinned (OpenSpec.upto itemFourSpec)

end Rows
end Go.Proofs.Ytaoaenjhclicfaa
