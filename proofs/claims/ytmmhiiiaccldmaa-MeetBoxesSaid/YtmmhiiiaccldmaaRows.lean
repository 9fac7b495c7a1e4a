/-
  No cell of these rows narrows 'for every input' (looked for: loops, veiled, ifaces, maps, wideKeys, modest, calm, conditions, laid).
  DERIVED. THE GIVEN ROWS OF THIS SEAT. 5 by the template 'for every input the law returns true; each argument reads behind the call as it read before'; 0 by the template 'total and deterministic' (their statements: YtmmhiiiaccldmaaTotals.lean).
  GIVEN WITH THE SEED: the statements are not yours to turn. If you find one false, say at which input.
  Laid BY PROGRAM, IN A SANDBOX (cutbox-rows.mjs): the forced cells as the released guide's own fill.sh prints them over the translation 9e8c0c5d32b7d72d… (all of the seat's roots in one cut). By AI agents, Wed Nov 11 2026. No macro, syntax, notation, axiom, sorry.
-/
import Derived.Test.YtmmhiiiaccldmaaChecked
import GoSem.Claim
import GoSem.ClaimJoined
import GoSem.ClaimMapViews
import Derived.JoinedTies
import Derived.KernelRfl
namespace Go.Proofs.Ytmmhiiiaccldmaa
/- THE CELL 'sum', in the pinned program and in every row, IS THE sha256 OF THE DUMP (.gsa) THAT YtmmhiiiaccldmaaProg.lean LOADS. Nothing in Lean hashes anything: it is a label: what it is worth is what the hold of that sum in a sandbox is worth. -/
noncomputable def Try.pinned : Pinned := { name := "ytmmhiiiaccldmaa", sum := "9e8c0c5d32b7d72d992ea8f914493a6ec3dee3697ceb772be9498a0362d9d23a", checked := Try.checked }
namespace Rows
def none {H : Type} : Left H := { results := [], args := [] }

/-- 'etchantlaw07.MeetBounds': WHATEVER THE INPUT: true; the input reads as it did. -/
def meetBoundsSpec : ChangeSpec := { name := "meetBounds", fn := fun _ => fun
  | [d1, d2] => { results := [.lit (.bool true)], args := [d1, d2] }
  | _ => none }
def meetBoundsRow : OpenClaim := { program := "ytmmhiiiaccldmaa", sum := "9e8c0c5d32b7d72d992ea8f914493a6ec3dee3697ceb772be9498a0362d9d23a", func := "etchant/etchantlaw07.MeetBounds", spec := "meetBounds", unfollowed := true, recurses := true, apart := false }
def MeetBoundsSaid : Prop := meetBoundsRow.holds Try.pinned (OpenSpec.ofChange meetBoundsSpec)

/-- ITS FALSE NEIGHBOUR: 'it returns false'. Refute it at one input. -/
def meetBoundsWrong : ChangeSpec := { name := "meetBounds", fn := fun _ => fun
  | [d1, d2] => { results := [.lit (.bool false)], args := [d1, d2] }
  | _ => none }
def MeetBoundsWrongFalsely : Prop := meetBoundsRow.holds Try.pinned (OpenSpec.ofChange meetBoundsWrong)

/-- 'etchantlaw07.MeetThrough': WHATEVER THE INPUT: true; the input reads as it did. -/
def meetThroughSpec : ChangeSpec := { name := "meetThrough", fn := fun _ => fun
  | [d1, d2, d3] => { results := [.lit (.bool true)], args := [d1, d2, d3] }
  | _ => none }
def meetThroughRow : OpenClaim := { program := "ytmmhiiiaccldmaa", sum := "9e8c0c5d32b7d72d992ea8f914493a6ec3dee3697ceb772be9498a0362d9d23a", func := "etchant/etchantlaw07.MeetThrough", spec := "meetThrough", unfollowed := true, recurses := true, apart := false }
def MeetThroughSaid : Prop := meetThroughRow.holds Try.pinned (OpenSpec.ofChange meetThroughSpec)

/-- ITS FALSE NEIGHBOUR: 'it returns false'. Refute it at one input. -/
def meetThroughWrong : ChangeSpec := { name := "meetThrough", fn := fun _ => fun
  | [d1, d2, d3] => { results := [.lit (.bool false)], args := [d1, d2, d3] }
  | _ => none }
def MeetThroughWrongFalsely : Prop := meetThroughRow.holds Try.pinned (OpenSpec.ofChange meetThroughWrong)

/-- 'etchantlaw07.MeetEnds': WHATEVER THE INPUT: true; the input reads as it did. -/
def meetEndsSpec : ChangeSpec := { name := "meetEnds", fn := fun _ => fun
  | [d1, d2, d3] => { results := [.lit (.bool true)], args := [d1, d2, d3] }
  | _ => none }
def meetEndsRow : OpenClaim := { program := "ytmmhiiiaccldmaa", sum := "9e8c0c5d32b7d72d992ea8f914493a6ec3dee3697ceb772be9498a0362d9d23a", func := "etchant/etchantlaw07.MeetEnds", spec := "meetEnds", unfollowed := true, recurses := true, apart := false }
def MeetEndsSaid : Prop := meetEndsRow.holds Try.pinned (OpenSpec.ofChange meetEndsSpec)

/-- ITS FALSE NEIGHBOUR: 'it returns false'. Refute it at one input. -/
def meetEndsWrong : ChangeSpec := { name := "meetEnds", fn := fun _ => fun
  | [d1, d2, d3] => { results := [.lit (.bool false)], args := [d1, d2, d3] }
  | _ => none }
def MeetEndsWrongFalsely : Prop := meetEndsRow.holds Try.pinned (OpenSpec.ofChange meetEndsWrong)

/-- 'etchantlaw07.MeetBoxes': WHATEVER THE INPUT: true; the input reads as it did. -/
def meetBoxesSpec : ChangeSpec := { name := "meetBoxes", fn := fun _ => fun
  | [d1, d2, d3] => { results := [.lit (.bool true)], args := [d1, d2, d3] }
  | _ => none }
def meetBoxesRow : OpenClaim := { program := "ytmmhiiiaccldmaa", sum := "9e8c0c5d32b7d72d992ea8f914493a6ec3dee3697ceb772be9498a0362d9d23a", func := "etchant/etchantlaw07.MeetBoxes", spec := "meetBoxes", unfollowed := true, recurses := true, apart := false }
def MeetBoxesSaid : Prop := meetBoxesRow.holds Try.pinned (OpenSpec.ofChange meetBoxesSpec)

/-- ITS FALSE NEIGHBOUR: 'it returns false'. Refute it at one input. -/
def meetBoxesWrong : ChangeSpec := { name := "meetBoxes", fn := fun _ => fun
  | [d1, d2, d3] => { results := [.lit (.bool false)], args := [d1, d2, d3] }
  | _ => none }
def MeetBoxesWrongFalsely : Prop := meetBoxesRow.holds Try.pinned (OpenSpec.ofChange meetBoxesWrong)

/-- 'etchantlaw07.MeetTurns': WHATEVER THE INPUT: true; the input reads as it did. -/
def meetTurnsSpec : ChangeSpec := { name := "meetTurns", fn := fun _ => fun
  | [d1, d2, d3] => { results := [.lit (.bool true)], args := [d1, d2, d3] }
  | _ => none }
def meetTurnsRow : OpenClaim := { program := "ytmmhiiiaccldmaa", sum := "9e8c0c5d32b7d72d992ea8f914493a6ec3dee3697ceb772be9498a0362d9d23a", func := "etchant/etchantlaw07.MeetTurns", spec := "meetTurns", unfollowed := true, recurses := true, apart := false }
def MeetTurnsSaid : Prop := meetTurnsRow.holds Try.pinned (OpenSpec.ofChange meetTurnsSpec)

/-- ITS FALSE NEIGHBOUR: 'it returns false'. Refute it at one input. -/
def meetTurnsWrong : ChangeSpec := { name := "meetTurns", fn := fun _ => fun
  | [d1, d2, d3] => { results := [.lit (.bool false)], args := [d1, d2, d3] }
  | _ => none }
def MeetTurnsWrongFalsely : Prop := meetTurnsRow.holds Try.pinned (OpenSpec.ofChange meetTurnsWrong)

/- THE SECOND FORM. 'bulk': how many values and letters a reading holds, each counted each time it is reached (what is shared counts as often as it is met; a slice's spare places count too). A statement '..UptoSaid' is the law's where the arguments, and the package variables that the reading takes, are together of bulk at most 1048576: NARROWER than '..Said'. Prove '..Said' where nothing that the law and all that it calls make is longer than what came in: it says more and counts as full. Else prove '..UptoSaid'. A law counts once. -/
mutual
def uptoBulk {H : Type} : DataW H → Nat
  | .lit (.string bytes) => bytes.length + 1
  | .lit _ => 1
  | .nil => 1
  | .ptr d => uptoBulk d + 1
  | .slice elems spare => uptoBulkAll elems + uptoBulkAll spare + 1
  | .agg parts => uptoBulkAll parts + 1
  | .iface _ d => uptoBulk d + 1
  | .map entries => uptoBulkEntries entries + 1
  | .held _ => 1
def uptoBulkAll {H : Type} : List (DataW H) → Nat
  | [] => 0
  | d :: r => uptoBulk d + uptoBulkAll r
def uptoBulkEntries {H : Type} : List (Lit × DataW H) → Nat
  | [] => 0
  | x :: r => uptoBulkEntry x + uptoBulkEntries r
def uptoBulkEntry {H : Type} : Lit × DataW H → Nat
  | (.string bytes, d) => bytes.length + uptoBulk d + 1
  | (_, d) => uptoBulk d + 1
 end
def uptoSmall : (H : Type) → List (DataW H) → Bool := fun _ ds => decide (uptoBulkAll ds ≤ 1048576)
def OpenSpec.upto (s : _root_.Go.ChangeSpec) : _root_.Go.OpenSpec := { _root_.Go.OpenSpec.ofChange s with cond := some uptoSmall }

/-- 'etchantlaw07.MeetBounds', WHERE WHAT IT READS IS OF BULK AT MOST 1048576: true; the input reads as it did. -/
def meetBoundsUptoRow : OpenClaim := { program := "ytmmhiiiaccldmaa", sum := "9e8c0c5d32b7d72d992ea8f914493a6ec3dee3697ceb772be9498a0362d9d23a", func := "etchant/etchantlaw07.MeetBounds", spec := "meetBounds", unfollowed := true, recurses := true, apart := false, narrowed := true }
def MeetBoundsUptoSaid : Prop := meetBoundsUptoRow.holds Try.pinned (OpenSpec.upto meetBoundsSpec)

/-- 'etchantlaw07.MeetThrough', WHERE WHAT IT READS IS OF BULK AT MOST 1048576: true; the input reads as it did. -/
def meetThroughUptoRow : OpenClaim := { program := "ytmmhiiiaccldmaa", sum := "9e8c0c5d32b7d72d992ea8f914493a6ec3dee3697ceb772be9498a0362d9d23a", func := "etchant/etchantlaw07.MeetThrough", spec := "meetThrough", unfollowed := true, recurses := true, apart := false, narrowed := true }
def MeetThroughUptoSaid : Prop := meetThroughUptoRow.holds Try.pinned (OpenSpec.upto meetThroughSpec)

/-- 'etchantlaw07.MeetEnds', WHERE WHAT IT READS IS OF BULK AT MOST 1048576: true; the input reads as it did. -/
def meetEndsUptoRow : OpenClaim := { program := "ytmmhiiiaccldmaa", sum := "9e8c0c5d32b7d72d992ea8f914493a6ec3dee3697ceb772be9498a0362d9d23a", func := "etchant/etchantlaw07.MeetEnds", spec := "meetEnds", unfollowed := true, recurses := true, apart := false, narrowed := true }
def MeetEndsUptoSaid : Prop := meetEndsUptoRow.holds Try.pinned (OpenSpec.upto meetEndsSpec)

/-- 'etchantlaw07.MeetBoxes', WHERE WHAT IT READS IS OF BULK AT MOST 1048576: true; the input reads as it did. -/
def meetBoxesUptoRow : OpenClaim := { program := "ytmmhiiiaccldmaa", sum := "9e8c0c5d32b7d72d992ea8f914493a6ec3dee3697ceb772be9498a0362d9d23a", func := "etchant/etchantlaw07.MeetBoxes", spec := "meetBoxes", unfollowed := true, recurses := true, apart := false, narrowed := true }
def MeetBoxesUptoSaid : Prop := meetBoxesUptoRow.holds Try.pinned (OpenSpec.upto meetBoxesSpec)

/-- 'etchantlaw07.MeetTurns', WHERE WHAT IT READS IS OF BULK AT MOST 1048576: true; the input reads as it did. -/
def meetTurnsUptoRow : OpenClaim := { program := "ytmmhiiiaccldmaa", sum := "9e8c0c5d32b7d72d992ea8f914493a6ec3dee3697ceb772be9498a0362d9d23a", func := "etchant/etchantlaw07.MeetTurns", spec := "meetTurns", unfollowed := true, recurses := true, apart := false, narrowed := true }
def MeetTurnsUptoSaid : Prop := meetTurnsUptoRow.holds Try.pinned (OpenSpec.upto meetTurnsSpec)

end Rows
end Go.Proofs.Ytmmhiiiaccldmaa
