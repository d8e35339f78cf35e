/-
  DERIVED. GIVEN WITH THE SEED: THE CARDS: each row of YtagfljmjdkoehaaDoorRows.lean that lists a variable, with what it lists TIED to the program's text (the seventh form; the later family's looks); each row that meets fmt, with fmt's text TOLD by the authors' own Lean function (tested against real Go, not proved from fmt's source: count such statements apart). THE CARD IS WHAT COUNTS. Prove the row's statement (the work); the ties are given (YtagfljmjdkoehaaDoorTie.lean); close each card by the builder's one call (the guide's Derived/Test/ToyasCard.lean, 'card_holds'). Laid BY PROGRAM, IN A SANDBOX (cutbox-door.mjs). By AI agents, Wed Nov 11 2026. No macro, syntax, notation, axiom, sorry.
-/
import Derived.Test.YtagfljmjdkoehaaDoorRows
import GoSem.ClaimSeven
namespace Go.Proofs.YtagfljmjdkoehaaDoor
namespace Rows

/-- THE TIED CARD OF 'regaugelaw03.FieldWide'. -/
def fieldWideCard : Claim7 := { stood := { row := fieldWideRow, standIns := [], harness := (true, "a35400f9d31210ec9f9fe5916ec45c364cd4741f96f6f8cdccbbb2b93e17767a"), looks := false }, kinds := [], alts := [], laidByText := true, laidKinds := [.data, .pinned], laidTests := true, laidLooks := .later }
def FieldWideCardSaid : Prop := Claim7.holds Tryd.pinned (.plain (OpenSpec.ofChange fieldWideSpec)) fieldWideCard

/-- THE TIED CARD OF 'regaugelaw01.DiskGrows'. -/
def diskGrowsCard : Claim7 := { stood := { row := diskGrowsRow, standIns := [], harness := (true, "a35400f9d31210ec9f9fe5916ec45c364cd4741f96f6f8cdccbbb2b93e17767a"), looks := false }, kinds := [], alts := [], laidByText := true, laidKinds := [.data, .pinned], laidTests := true, laidLooks := .later }
def DiskGrowsCardSaid : Prop := Claim7.holds Tryd.pinned (.plain (OpenSpec.ofChange diskGrowsSpec)) diskGrowsCard

/-- THE SECOND FORM's CARD OF 'regaugelaw03.FieldWide'. -/
def fieldWideUptoCard : Claim7 := { stood := { row := fieldWideUptoRow, standIns := [], harness := (true, "a35400f9d31210ec9f9fe5916ec45c364cd4741f96f6f8cdccbbb2b93e17767a"), looks := false }, kinds := [], alts := [], laidByText := true, laidKinds := [.data, .pinned], laidTests := true, laidLooks := .later }
def FieldWideUptoCardSaid : Prop := Claim7.holds Tryd.pinned (.plain (OpenSpec.upto fieldWideSpec)) fieldWideUptoCard

/-- THE SECOND FORM's CARD OF 'regaugelaw01.DiskGrows'. -/
def diskGrowsUptoCard : Claim7 := { stood := { row := diskGrowsUptoRow, standIns := [], harness := (true, "a35400f9d31210ec9f9fe5916ec45c364cd4741f96f6f8cdccbbb2b93e17767a"), looks := false }, kinds := [], alts := [], laidByText := true, laidKinds := [.data, .pinned], laidTests := true, laidLooks := .later }
def DiskGrowsUptoCardSaid : Prop := Claim7.holds Tryd.pinned (.plain (OpenSpec.upto diskGrowsSpec)) diskGrowsUptoCard
end Rows
end Go.Proofs.YtagfljmjdkoehaaDoor
