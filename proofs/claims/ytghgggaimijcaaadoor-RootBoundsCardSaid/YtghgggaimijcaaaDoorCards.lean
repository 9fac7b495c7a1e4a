/-
  DERIVED. GIVEN WITH THE SEED: THE CARDS: each row of YtghgggaimijcaaaDoorRows.lean that lists a variable, with what it lists TIED to the program's text (the seventh form; the later family's looks); each row that meets fmt, with fmt's text TOLD by the authors' own Lean function (tested against real Go, not proved from fmt's source: count such statements apart). THE CARD IS WHAT COUNTS. Prove the row's statement (the work); the ties are given (YtghgggaimijcaaaDoorTie.lean); close each card by the builder's one call (the guide's Derived/Test/ToyasCard.lean, 'card_holds'). Laid BY PROGRAM, IN A SANDBOX (cutbox-door.mjs). By AI agents, Wed Nov 11 2026. No macro, syntax, notation, axiom, sorry.
-/
import Derived.Test.YtghgggaimijcaaaDoorRows
import GoSem.ClaimSeven
namespace Go.Proofs.YtghgggaimijcaaaDoor
namespace Rows

/-- THE TIED CARD OF 'etchantlaw02.RootWhole'. -/
def rootWholeCard : Claim7 := { stood := { row := rootWholeRow, standIns := [], harness := (true, "938a6ba4b6d1b9d58cd18a21fcbcc71eb884eca0d6622e9c2ba1d72db6af7c79"), looks := true }, kinds := [], alts := [], laidByText := true, laidKinds := [.data, .data, .data], laidTests := true, laidLooks := .later }
def RootWholeCardSaid : Prop := Claim7.holds Tryd.pinned (.plain (OpenSpec.ofChange rootWholeSpec)) rootWholeCard

/-- THE TIED CARD OF 'etchantlaw02.RootBounds'. -/
def rootBoundsCard : Claim7 := { stood := { row := rootBoundsRow, standIns := [], harness := (true, "938a6ba4b6d1b9d58cd18a21fcbcc71eb884eca0d6622e9c2ba1d72db6af7c79"), looks := true }, kinds := [], alts := [], laidByText := true, laidKinds := [.data, .data, .data], laidTests := true, laidLooks := .later }
def RootBoundsCardSaid : Prop := Claim7.holds Tryd.pinned (.plain (OpenSpec.ofChange rootBoundsSpec)) rootBoundsCard

/-- THE SECOND FORM's CARD OF 'etchantlaw02.RootWhole'. -/
def rootWholeUptoCard : Claim7 := { stood := { row := rootWholeUptoRow, standIns := [], harness := (true, "938a6ba4b6d1b9d58cd18a21fcbcc71eb884eca0d6622e9c2ba1d72db6af7c79"), looks := true }, kinds := [], alts := [], laidByText := true, laidKinds := [.data, .data, .data], laidTests := true, laidLooks := .later }
def RootWholeUptoCardSaid : Prop := Claim7.holds Tryd.pinned (.plain (OpenSpec.upto rootWholeSpec)) rootWholeUptoCard

/-- THE SECOND FORM's CARD OF 'etchantlaw02.RootBounds'. -/
def rootBoundsUptoCard : Claim7 := { stood := { row := rootBoundsUptoRow, standIns := [], harness := (true, "938a6ba4b6d1b9d58cd18a21fcbcc71eb884eca0d6622e9c2ba1d72db6af7c79"), looks := true }, kinds := [], alts := [], laidByText := true, laidKinds := [.data, .data, .data], laidTests := true, laidLooks := .later }
def RootBoundsUptoCardSaid : Prop := Claim7.holds Tryd.pinned (.plain (OpenSpec.upto rootBoundsSpec)) rootBoundsUptoCard
end Rows
end Go.Proofs.YtghgggaimijcaaaDoor
