/-
  DERIVED. GIVEN WITH THE SEED: THE CARDS: each row of YtdaaknfmodbjcaaDoorRows.lean that lists a variable, with what it lists TIED to the program's text (the seventh form; the later family's looks); each row that meets fmt, with fmt's text TOLD by the authors' own Lean function (tested against real Go, not proved from fmt's source: count such statements apart). THE CARD IS WHAT COUNTS. Prove the row's statement (the work); the ties are given (YtdaaknfmodbjcaaDoorTie.lean); close each card by the builder's one call (the guide's Derived/Test/ToyasCard.lean, 'card_holds'). Laid BY PROGRAM, IN A SANDBOX (cutbox-door.mjs). By AI agents, Wed Nov 11 2026. No macro, syntax, notation, axiom, sorry.
-/
import Derived.Test.YtdaaknfmodbjcaaDoorRows
import GoSem.ClaimSeven
namespace Go.Proofs.YtdaaknfmodbjcaaDoor
namespace Rows

/-- THE TIED CARD OF 'etchantlaw01.NumDivs'. -/
def numDivsCard : Claim7 := { stood := { row := numDivsRow, standIns := [], harness := (true, "4418cc2d99618743087ec17532a3cb51beeba78e19d5ad2d1e444dce921223c1"), looks := false }, kinds := [], alts := [], laidByText := true, laidKinds := [.data, .data, .data], laidTests := true, laidLooks := .later }
def NumDivsCardSaid : Prop := Claim7.holds Tryd.pinned (.plain (OpenSpec.ofChange numDivsSpec)) numDivsCard

/-- THE TIED CARD OF 'etchantlaw01.NumGcds'. -/
def numGcdsCard : Claim7 := { stood := { row := numGcdsRow, standIns := [], harness := (true, "4418cc2d99618743087ec17532a3cb51beeba78e19d5ad2d1e444dce921223c1"), looks := false }, kinds := [], alts := [], laidByText := true, laidKinds := [.data, .data, .data], laidTests := true, laidLooks := .later }
def NumGcdsCardSaid : Prop := Claim7.holds Tryd.pinned (.plain (OpenSpec.ofChange numGcdsSpec)) numGcdsCard

/-- THE TIED CARD OF 'etchantlaw01.NumRing'. -/
def numRingCard : Claim7 := { stood := { row := numRingRow, standIns := [], harness := (true, "4418cc2d99618743087ec17532a3cb51beeba78e19d5ad2d1e444dce921223c1"), looks := false }, kinds := [], alts := [], laidByText := true, laidKinds := [.data, .data, .data], laidTests := true, laidLooks := .later }
def NumRingCardSaid : Prop := Claim7.holds Tryd.pinned (.plain (OpenSpec.ofChange numRingSpec)) numRingCard

/-- THE TIED CARD OF 'etchantlaw01.NumTexts'. -/
def numTextsCard : Claim7 := { stood := { row := numTextsRow, standIns := [], harness := (true, "4418cc2d99618743087ec17532a3cb51beeba78e19d5ad2d1e444dce921223c1"), looks := false }, kinds := [], alts := [], laidByText := true, laidKinds := [.data, .data, .data], laidTests := true, laidLooks := .later }
def NumTextsCardSaid : Prop := Claim7.holds Tryd.pinned (.plain (OpenSpec.ofChange numTextsSpec)) numTextsCard

/-- THE TIED CARD OF 'etchantlaw01.NumInts'. -/
def numIntsCard : Claim7 := { stood := { row := numIntsRow, standIns := [], harness := (true, "4418cc2d99618743087ec17532a3cb51beeba78e19d5ad2d1e444dce921223c1"), looks := false }, kinds := [], alts := [], laidByText := true, laidKinds := [.data, .data, .data], laidTests := true, laidLooks := .later }
def NumIntsCardSaid : Prop := Claim7.holds Tryd.pinned (.plain (OpenSpec.ofChange numIntsSpec)) numIntsCard

/-- THE TIED CARD OF 'etchantlaw01.NumBack'. -/
def numBackCard : Claim7 := { stood := { row := numBackRow, standIns := [], harness := (true, "4418cc2d99618743087ec17532a3cb51beeba78e19d5ad2d1e444dce921223c1"), looks := false }, kinds := [], alts := [], laidByText := true, laidKinds := [.data, .data, .data], laidTests := true, laidLooks := .later }
def NumBackCardSaid : Prop := Claim7.holds Tryd.pinned (.plain (OpenSpec.ofChange numBackSpec)) numBackCard

/-- THE SECOND FORM's CARD OF 'etchantlaw01.NumDivs'. -/
def numDivsUptoCard : Claim7 := { stood := { row := numDivsUptoRow, standIns := [], harness := (true, "4418cc2d99618743087ec17532a3cb51beeba78e19d5ad2d1e444dce921223c1"), looks := false }, kinds := [], alts := [], laidByText := true, laidKinds := [.data, .data, .data], laidTests := true, laidLooks := .later }
def NumDivsUptoCardSaid : Prop := Claim7.holds Tryd.pinned (.plain (OpenSpec.upto numDivsSpec)) numDivsUptoCard

/-- THE SECOND FORM's CARD OF 'etchantlaw01.NumGcds'. -/
def numGcdsUptoCard : Claim7 := { stood := { row := numGcdsUptoRow, standIns := [], harness := (true, "4418cc2d99618743087ec17532a3cb51beeba78e19d5ad2d1e444dce921223c1"), looks := false }, kinds := [], alts := [], laidByText := true, laidKinds := [.data, .data, .data], laidTests := true, laidLooks := .later }
def NumGcdsUptoCardSaid : Prop := Claim7.holds Tryd.pinned (.plain (OpenSpec.upto numGcdsSpec)) numGcdsUptoCard

/-- THE SECOND FORM's CARD OF 'etchantlaw01.NumRing'. -/
def numRingUptoCard : Claim7 := { stood := { row := numRingUptoRow, standIns := [], harness := (true, "4418cc2d99618743087ec17532a3cb51beeba78e19d5ad2d1e444dce921223c1"), looks := false }, kinds := [], alts := [], laidByText := true, laidKinds := [.data, .data, .data], laidTests := true, laidLooks := .later }
def NumRingUptoCardSaid : Prop := Claim7.holds Tryd.pinned (.plain (OpenSpec.upto numRingSpec)) numRingUptoCard

/-- THE SECOND FORM's CARD OF 'etchantlaw01.NumTexts'. -/
def numTextsUptoCard : Claim7 := { stood := { row := numTextsUptoRow, standIns := [], harness := (true, "4418cc2d99618743087ec17532a3cb51beeba78e19d5ad2d1e444dce921223c1"), looks := false }, kinds := [], alts := [], laidByText := true, laidKinds := [.data, .data, .data], laidTests := true, laidLooks := .later }
def NumTextsUptoCardSaid : Prop := Claim7.holds Tryd.pinned (.plain (OpenSpec.upto numTextsSpec)) numTextsUptoCard

/-- THE SECOND FORM's CARD OF 'etchantlaw01.NumInts'. -/
def numIntsUptoCard : Claim7 := { stood := { row := numIntsUptoRow, standIns := [], harness := (true, "4418cc2d99618743087ec17532a3cb51beeba78e19d5ad2d1e444dce921223c1"), looks := false }, kinds := [], alts := [], laidByText := true, laidKinds := [.data, .data, .data], laidTests := true, laidLooks := .later }
def NumIntsUptoCardSaid : Prop := Claim7.holds Tryd.pinned (.plain (OpenSpec.upto numIntsSpec)) numIntsUptoCard

/-- THE SECOND FORM's CARD OF 'etchantlaw01.NumBack'. -/
def numBackUptoCard : Claim7 := { stood := { row := numBackUptoRow, standIns := [], harness := (true, "4418cc2d99618743087ec17532a3cb51beeba78e19d5ad2d1e444dce921223c1"), looks := false }, kinds := [], alts := [], laidByText := true, laidKinds := [.data, .data, .data], laidTests := true, laidLooks := .later }
def NumBackUptoCardSaid : Prop := Claim7.holds Tryd.pinned (.plain (OpenSpec.upto numBackSpec)) numBackUptoCard
end Rows
end Go.Proofs.YtdaaknfmodbjcaaDoor
