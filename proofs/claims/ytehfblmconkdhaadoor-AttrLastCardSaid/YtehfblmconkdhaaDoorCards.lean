/-
  DERIVED. GIVEN WITH THE SEED: THE CARDS: each row of YtehfblmconkdhaaDoorRows.lean that lists a variable, with what it lists TIED to the program's text (the seventh form; the later family's looks); each row that meets fmt, with fmt's text TOLD by the authors' own Lean function (tested against real Go, not proved from fmt's source: count such statements apart). THE CARD IS WHAT COUNTS. Prove the row's statement (the work); the ties are given (YtehfblmconkdhaaDoorTie.lean); close each card by the builder's one call (the guide's Derived/Test/ToyasCard.lean, 'card_holds'). Laid BY PROGRAM, IN A SANDBOX (cutbox-door.mjs). By AI agents, Wed Nov 11 2026. No macro, syntax, notation, axiom, sorry.
-/
import Derived.Test.YtehfblmconkdhaaDoorRows
import GoSem.ClaimSeven
namespace Go.Proofs.YtehfblmconkdhaaDoor
namespace Rows

/-- THE TIED CARD OF 'bindlelaw07.AttrApplies'. -/
def attrAppliesCard : Claim7 := { stood := { row := attrAppliesRow, standIns := [], harness := (true, "c3b201b7b8d781786c63d5361373b4c07947cedc59e218fd49ca063d3679bbaf"), looks := true }, kinds := [], alts := [], laidByText := true, laidKinds := [.data, .data, .data, .data, .sentinel, .sentinel, .pinned], laidTests := true, laidLooks := .later }
def AttrAppliesCardSaid : Prop := Claim7.holds Tryd.pinned (.plain (OpenSpec.ofChange attrAppliesSpec)) attrAppliesCard

/-- THE TIED CARD OF 'bindlelaw07.AttrValues'. -/
def attrValuesCard : Claim7 := { stood := { row := attrValuesRow, standIns := [], harness := (true, "c3b201b7b8d781786c63d5361373b4c07947cedc59e218fd49ca063d3679bbaf"), looks := true }, kinds := [], alts := [], laidByText := true, laidKinds := [.data, .data, .data, .data, .sentinel, .sentinel, .pinned], laidTests := true, laidLooks := .later }
def AttrValuesCardSaid : Prop := Claim7.holds Tryd.pinned (.plain (OpenSpec.ofChange attrValuesSpec)) attrValuesCard

/-- THE TIED CARD OF 'bindlelaw07.AttrLast'. -/
def attrLastCard : Claim7 := { stood := { row := attrLastRow, standIns := [], harness := (true, "c3b201b7b8d781786c63d5361373b4c07947cedc59e218fd49ca063d3679bbaf"), looks := true }, kinds := [], alts := [], laidByText := true, laidKinds := [.data, .data, .data, .data, .sentinel, .sentinel, .pinned], laidTests := true, laidLooks := .later }
def AttrLastCardSaid : Prop := Claim7.holds Tryd.pinned (.plain (OpenSpec.ofChange attrLastSpec)) attrLastCard

/-- THE TIED CARD OF 'bindlelaw07.AttrKept'. -/
def attrKeptCard : Claim7 := { stood := { row := attrKeptRow, standIns := [], harness := (true, "c3b201b7b8d781786c63d5361373b4c07947cedc59e218fd49ca063d3679bbaf"), looks := true }, kinds := [], alts := [], laidByText := true, laidKinds := [.data, .data, .data, .data, .sentinel, .sentinel, .pinned], laidTests := true, laidLooks := .later }
def AttrKeptCardSaid : Prop := Claim7.holds Tryd.pinned (.plain (OpenSpec.ofChange attrKeptSpec)) attrKeptCard

/-- THE TIED CARD OF 'bindlelaw07.AttrParts'. -/
def attrPartsCard : Claim7 := { stood := { row := attrPartsRow, standIns := [], harness := (true, "c3b201b7b8d781786c63d5361373b4c07947cedc59e218fd49ca063d3679bbaf"), looks := true }, kinds := [], alts := [], laidByText := true, laidKinds := [.data, .data, .data, .data, .sentinel, .sentinel, .pinned], laidTests := true, laidLooks := .later }
def AttrPartsCardSaid : Prop := Claim7.holds Tryd.pinned (.plain (OpenSpec.ofChange attrPartsSpec)) attrPartsCard

/-- THE TIED CARD OF 'bindlelaw06.RecordSizes'. -/
def recordSizesCard : Claim7 := { stood := { row := recordSizesRow, standIns := [], harness := (true, "c3b201b7b8d781786c63d5361373b4c07947cedc59e218fd49ca063d3679bbaf"), looks := true }, kinds := [], alts := [], laidByText := true, laidKinds := [.data, .data, .data, .data, .sentinel, .sentinel, .pinned], laidTests := true, laidLooks := .later }
def RecordSizesCardSaid : Prop := Claim7.holds Tryd.pinned (.plain (OpenSpec.ofChange recordSizesSpec)) recordSizesCard

/-- THE SECOND FORM's CARD OF 'bindlelaw07.AttrApplies'. -/
def attrAppliesUptoCard : Claim7 := { stood := { row := attrAppliesUptoRow, standIns := [], harness := (true, "c3b201b7b8d781786c63d5361373b4c07947cedc59e218fd49ca063d3679bbaf"), looks := true }, kinds := [], alts := [], laidByText := true, laidKinds := [.data, .data, .data, .data, .sentinel, .sentinel, .pinned], laidTests := true, laidLooks := .later }
def AttrAppliesUptoCardSaid : Prop := Claim7.holds Tryd.pinned (.plain (OpenSpec.upto attrAppliesSpec)) attrAppliesUptoCard

/-- THE SECOND FORM's CARD OF 'bindlelaw07.AttrValues'. -/
def attrValuesUptoCard : Claim7 := { stood := { row := attrValuesUptoRow, standIns := [], harness := (true, "c3b201b7b8d781786c63d5361373b4c07947cedc59e218fd49ca063d3679bbaf"), looks := true }, kinds := [], alts := [], laidByText := true, laidKinds := [.data, .data, .data, .data, .sentinel, .sentinel, .pinned], laidTests := true, laidLooks := .later }
def AttrValuesUptoCardSaid : Prop := Claim7.holds Tryd.pinned (.plain (OpenSpec.upto attrValuesSpec)) attrValuesUptoCard

/-- THE SECOND FORM's CARD OF 'bindlelaw07.AttrLast'. -/
def attrLastUptoCard : Claim7 := { stood := { row := attrLastUptoRow, standIns := [], harness := (true, "c3b201b7b8d781786c63d5361373b4c07947cedc59e218fd49ca063d3679bbaf"), looks := true }, kinds := [], alts := [], laidByText := true, laidKinds := [.data, .data, .data, .data, .sentinel, .sentinel, .pinned], laidTests := true, laidLooks := .later }
def AttrLastUptoCardSaid : Prop := Claim7.holds Tryd.pinned (.plain (OpenSpec.upto attrLastSpec)) attrLastUptoCard

/-- THE SECOND FORM's CARD OF 'bindlelaw07.AttrKept'. -/
def attrKeptUptoCard : Claim7 := { stood := { row := attrKeptUptoRow, standIns := [], harness := (true, "c3b201b7b8d781786c63d5361373b4c07947cedc59e218fd49ca063d3679bbaf"), looks := true }, kinds := [], alts := [], laidByText := true, laidKinds := [.data, .data, .data, .data, .sentinel, .sentinel, .pinned], laidTests := true, laidLooks := .later }
def AttrKeptUptoCardSaid : Prop := Claim7.holds Tryd.pinned (.plain (OpenSpec.upto attrKeptSpec)) attrKeptUptoCard

/-- THE SECOND FORM's CARD OF 'bindlelaw07.AttrParts'. -/
def attrPartsUptoCard : Claim7 := { stood := { row := attrPartsUptoRow, standIns := [], harness := (true, "c3b201b7b8d781786c63d5361373b4c07947cedc59e218fd49ca063d3679bbaf"), looks := true }, kinds := [], alts := [], laidByText := true, laidKinds := [.data, .data, .data, .data, .sentinel, .sentinel, .pinned], laidTests := true, laidLooks := .later }
def AttrPartsUptoCardSaid : Prop := Claim7.holds Tryd.pinned (.plain (OpenSpec.upto attrPartsSpec)) attrPartsUptoCard

/-- THE SECOND FORM's CARD OF 'bindlelaw06.RecordSizes'. -/
def recordSizesUptoCard : Claim7 := { stood := { row := recordSizesUptoRow, standIns := [], harness := (true, "c3b201b7b8d781786c63d5361373b4c07947cedc59e218fd49ca063d3679bbaf"), looks := true }, kinds := [], alts := [], laidByText := true, laidKinds := [.data, .data, .data, .data, .sentinel, .sentinel, .pinned], laidTests := true, laidLooks := .later }
def RecordSizesUptoCardSaid : Prop := Claim7.holds Tryd.pinned (.plain (OpenSpec.upto recordSizesSpec)) recordSizesUptoCard
end Rows
end Go.Proofs.YtehfblmconkdhaaDoor
