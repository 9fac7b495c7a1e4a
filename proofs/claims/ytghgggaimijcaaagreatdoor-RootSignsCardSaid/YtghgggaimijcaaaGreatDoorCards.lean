/-
  DERIVED. GIVEN WITH THE SEED: THE CARDS: each row of YtghgggaimijcaaaGreatDoorRows.lean that lists a variable, with what it lists TIED to the program's text (the seventh form; the later family's looks); each row that meets fmt, with fmt's text TOLD by the authors' own Lean function (tested against real Go, not proved from fmt's source: count such statements apart). THE CARD IS WHAT COUNTS. Prove the row's statement (the work); the ties are given (YtghgggaimijcaaaGreatDoorTie.lean); close each card by the builder's one call (the guide's Derived/Test/ToyasCard.lean, 'card_holds'). Laid BY PROGRAM, IN A SANDBOX (cutbox-door.mjs). By AI agents, Wed Nov 11 2026. No macro, syntax, notation, axiom, sorry.
-/
import Derived.Test.YtghgggaimijcaaaGreatDoorRows
import GoSem.ClaimSeven
namespace Go.Proofs.YtghgggaimijcaaaGreatDoor
namespace Rows

/-- THE TIED CARD OF 'etchantlaw02.RootOf'. -/
def rootOfCard : Claim7 := { stood := { row := rootOfRow, standIns := [], harness := (true, "2d765eb56f043bbab15605c96fd9d3bb254b4bd732771e5ab5a3cd539cb55c83"), looks := true }, kinds := [], alts := [], laidByText := true, laidKinds := [.data, .data, .data], laidTests := true, laidLooks := .later }
def RootOfCardSaid : Prop := Claim7.holds Tryz.pinned (.plain (OpenSpec.ofChange rootOfSpec)) rootOfCard

/-- THE TIED CARD OF 'etchantlaw02.RootSigns'. -/
def rootSignsCard : Claim7 := { stood := { row := rootSignsRow, standIns := [], harness := (true, "2d765eb56f043bbab15605c96fd9d3bb254b4bd732771e5ab5a3cd539cb55c83"), looks := true }, kinds := [], alts := [], laidByText := true, laidKinds := [.data, .data, .data], laidTests := true, laidLooks := .later }
def RootSignsCardSaid : Prop := Claim7.holds Tryz.pinned (.plain (OpenSpec.ofChange rootSignsSpec)) rootSignsCard

/-- THE TIED CARD OF 'etchantlaw02.RootCmps'. -/
def rootCmpsCard : Claim7 := { stood := { row := rootCmpsRow, standIns := [], harness := (true, "2d765eb56f043bbab15605c96fd9d3bb254b4bd732771e5ab5a3cd539cb55c83"), looks := true }, kinds := [], alts := [], laidByText := true, laidKinds := [.data, .data, .data], laidTests := true, laidLooks := .later }
def RootCmpsCardSaid : Prop := Claim7.holds Tryz.pinned (.plain (OpenSpec.ofChange rootCmpsSpec)) rootCmpsCard

/-- THE TIED CARD OF 'etchantlaw02.RootOrder'. -/
def rootOrderCard : Claim7 := { stood := { row := rootOrderRow, standIns := [], harness := (true, "2d765eb56f043bbab15605c96fd9d3bb254b4bd732771e5ab5a3cd539cb55c83"), looks := true }, kinds := [], alts := [], laidByText := true, laidKinds := [.data, .data, .data], laidTests := true, laidLooks := .later }
def RootOrderCardSaid : Prop := Claim7.holds Tryz.pinned (.plain (OpenSpec.ofChange rootOrderSpec)) rootOrderCard

/-- THE TIED CARD OF 'etchantlaw02.RootTexts'. -/
def rootTextsCard : Claim7 := { stood := { row := rootTextsRow, standIns := [], harness := (true, "2d765eb56f043bbab15605c96fd9d3bb254b4bd732771e5ab5a3cd539cb55c83"), looks := true }, kinds := [], alts := [], laidByText := true, laidKinds := [.data, .data, .data], laidTests := true, laidLooks := .later }
def RootTextsCardSaid : Prop := Claim7.holds Tryz.pinned (.plain (OpenSpec.ofChange rootTextsSpec)) rootTextsCard

/-- THE SECOND FORM's CARD OF 'etchantlaw02.RootOf'. -/
def rootOfUptoCard : Claim7 := { stood := { row := rootOfUptoRow, standIns := [], harness := (true, "2d765eb56f043bbab15605c96fd9d3bb254b4bd732771e5ab5a3cd539cb55c83"), looks := true }, kinds := [], alts := [], laidByText := true, laidKinds := [.data, .data, .data], laidTests := true, laidLooks := .later }
def RootOfUptoCardSaid : Prop := Claim7.holds Tryz.pinned (.plain (OpenSpec.upto rootOfSpec)) rootOfUptoCard

/-- THE SECOND FORM's CARD OF 'etchantlaw02.RootSigns'. -/
def rootSignsUptoCard : Claim7 := { stood := { row := rootSignsUptoRow, standIns := [], harness := (true, "2d765eb56f043bbab15605c96fd9d3bb254b4bd732771e5ab5a3cd539cb55c83"), looks := true }, kinds := [], alts := [], laidByText := true, laidKinds := [.data, .data, .data], laidTests := true, laidLooks := .later }
def RootSignsUptoCardSaid : Prop := Claim7.holds Tryz.pinned (.plain (OpenSpec.upto rootSignsSpec)) rootSignsUptoCard

/-- THE SECOND FORM's CARD OF 'etchantlaw02.RootCmps'. -/
def rootCmpsUptoCard : Claim7 := { stood := { row := rootCmpsUptoRow, standIns := [], harness := (true, "2d765eb56f043bbab15605c96fd9d3bb254b4bd732771e5ab5a3cd539cb55c83"), looks := true }, kinds := [], alts := [], laidByText := true, laidKinds := [.data, .data, .data], laidTests := true, laidLooks := .later }
def RootCmpsUptoCardSaid : Prop := Claim7.holds Tryz.pinned (.plain (OpenSpec.upto rootCmpsSpec)) rootCmpsUptoCard

/-- THE SECOND FORM's CARD OF 'etchantlaw02.RootOrder'. -/
def rootOrderUptoCard : Claim7 := { stood := { row := rootOrderUptoRow, standIns := [], harness := (true, "2d765eb56f043bbab15605c96fd9d3bb254b4bd732771e5ab5a3cd539cb55c83"), looks := true }, kinds := [], alts := [], laidByText := true, laidKinds := [.data, .data, .data], laidTests := true, laidLooks := .later }
def RootOrderUptoCardSaid : Prop := Claim7.holds Tryz.pinned (.plain (OpenSpec.upto rootOrderSpec)) rootOrderUptoCard

/-- THE SECOND FORM's CARD OF 'etchantlaw02.RootTexts'. -/
def rootTextsUptoCard : Claim7 := { stood := { row := rootTextsUptoRow, standIns := [], harness := (true, "2d765eb56f043bbab15605c96fd9d3bb254b4bd732771e5ab5a3cd539cb55c83"), looks := true }, kinds := [], alts := [], laidByText := true, laidKinds := [.data, .data, .data], laidTests := true, laidLooks := .later }
def RootTextsUptoCardSaid : Prop := Claim7.holds Tryz.pinned (.plain (OpenSpec.upto rootTextsSpec)) rootTextsUptoCard
end Rows
end Go.Proofs.YtghgggaimijcaaaGreatDoor
