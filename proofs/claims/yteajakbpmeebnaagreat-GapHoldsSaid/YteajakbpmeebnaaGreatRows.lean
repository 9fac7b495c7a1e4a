/-
  No cell of these rows narrows 'for every input' (looked for: loops, veiled, ifaces, maps, wideKeys, modest, calm, conditions, laid).
  DERIVED. THE GIVEN ROWS OF THIS SEAT. 2 by the template 'for every input the law returns true; each argument reads behind the call as it read before'; 0 by the template 'total and deterministic' (their statements: YteajakbpmeebnaaGreatTotals.lean).
  GIVEN WITH THE SEED: the statements are not yours to turn. If you find one false, say at which input.
  Laid BY PROGRAM, IN A SANDBOX (cutbox-rows.mjs): the forced cells as the released guide's own fill.sh prints them over the translation e1385808f5dafd53… (all of the seat's roots in one cut). By AI agents, Wed Nov 11 2026. No macro, syntax, notation, axiom, sorry.
-/
import Derived.Test.YteajakbpmeebnaaGreatChecked
import GoSem.Claim
import GoSem.ClaimJoined
import GoSem.ClaimMapViews
import Derived.JoinedTies
import Derived.KernelRfl
namespace Go.Proofs.YteajakbpmeebnaaGreat
/- THE CELL 'sum', in the pinned program and in every row, IS THE sha256 OF THE DUMP (.gsa) THAT YteajakbpmeebnaaGreatProg.lean LOADS. Nothing in Lean hashes anything: it is a label: what it is worth is what the hold of that sum in a sandbox is worth. -/
noncomputable def Tryz.pinned : Pinned := { name := "yteajakbpmeebnaagreat", sum := "e1385808f5dafd535a4396f36a44a842c9da952be1c86de4d1dd4346b76d617d", checked := Tryz.checked }
namespace Rows
def none {H : Type} : Left H := { results := [], args := [] }

/-- 'etchantlaw10.GapOf': WHATEVER THE INPUT: true; the input reads as it did. -/
def gapOfSpec : ChangeSpec := { name := "gapOf", fn := fun _ => fun
  | [d1, d2, d3] => { results := [.lit (.bool true)], args := [d1, d2, d3] }
  | _ => none }
def gapOfRow : OpenClaim := { program := "yteajakbpmeebnaagreat", sum := "e1385808f5dafd535a4396f36a44a842c9da952be1c86de4d1dd4346b76d617d", func := "etchant/etchantlaw10.GapOf", spec := "gapOf", unfollowed := true, recurses := true, apart := false }
def GapOfSaid : Prop := gapOfRow.holds Tryz.pinned (OpenSpec.ofChange gapOfSpec)

/-- ITS FALSE NEIGHBOUR: 'it returns false'. Refute it at one input. -/
def gapOfWrong : ChangeSpec := { name := "gapOf", fn := fun _ => fun
  | [d1, d2, d3] => { results := [.lit (.bool false)], args := [d1, d2, d3] }
  | _ => none }
def GapOfWrongFalsely : Prop := gapOfRow.holds Tryz.pinned (OpenSpec.ofChange gapOfWrong)

/-- 'etchantlaw10.GapHolds': WHATEVER THE INPUT: true; the input reads as it did. -/
def gapHoldsSpec : ChangeSpec := { name := "gapHolds", fn := fun _ => fun
  | [d1, d2, d3] => { results := [.lit (.bool true)], args := [d1, d2, d3] }
  | _ => none }
def gapHoldsRow : OpenClaim := { program := "yteajakbpmeebnaagreat", sum := "e1385808f5dafd535a4396f36a44a842c9da952be1c86de4d1dd4346b76d617d", func := "etchant/etchantlaw10.GapHolds", spec := "gapHolds", unfollowed := true, recurses := true, apart := false }
def GapHoldsSaid : Prop := gapHoldsRow.holds Tryz.pinned (OpenSpec.ofChange gapHoldsSpec)

/-- ITS FALSE NEIGHBOUR: 'it returns false'. Refute it at one input. -/
def gapHoldsWrong : ChangeSpec := { name := "gapHolds", fn := fun _ => fun
  | [d1, d2, d3] => { results := [.lit (.bool false)], args := [d1, d2, d3] }
  | _ => none }
def GapHoldsWrongFalsely : Prop := gapHoldsRow.holds Tryz.pinned (OpenSpec.ofChange gapHoldsWrong)

/- THE SECOND FORM. 'bulk': how many values and letters a reading holds, each counted each time it is reached (what is shared counts as often as it is met; a slice's spare places count too). A statement '..UptoSaid' is the law's where the arguments, and the package variables that the reading takes, are together of bulk at most 1048576: NARROWER than '..Said'. Prove '..Said' where nothing that the law and all that it calls make is longer than what came in: it says more and counts as full. Else prove '..UptoSaid'. A law counts once. -/
mutual
def uptoBulk {H : Type} : DataW H → Nat
  | .lit (.string bytes) => bytes.length + 1
  | .lit _ => 1
  | .nil => 1
  | .ptr d => uptoBulk d + 1
  | .slice elems spare => uptoBulkAll elems + uptoBulkAll spare + 1
  | .agg parts => uptoBulkAll parts + 1
  | .iface _ d => uptoBulk d + 1
  | .map entries => uptoBulkEntries entries + 1
  | .held _ => 1
def uptoBulkAll {H : Type} : List (DataW H) → Nat
  | [] => 0
  | d :: r => uptoBulk d + uptoBulkAll r
def uptoBulkEntries {H : Type} : List (Lit × DataW H) → Nat
  | [] => 0
  | x :: r => uptoBulkEntry x + uptoBulkEntries r
def uptoBulkEntry {H : Type} : Lit × DataW H → Nat
  | (.string bytes, d) => bytes.length + uptoBulk d + 1
  | (_, d) => uptoBulk d + 1
 end
def uptoSmall : (H : Type) → List (DataW H) → Bool := fun _ ds => decide (uptoBulkAll ds ≤ 1048576)
def OpenSpec.upto (s : _root_.Go.ChangeSpec) : _root_.Go.OpenSpec := { _root_.Go.OpenSpec.ofChange s with cond := some uptoSmall }

/-- 'etchantlaw10.GapOf', WHERE WHAT IT READS IS OF BULK AT MOST 1048576: true; the input reads as it did. -/
def gapOfUptoRow : OpenClaim := { program := "yteajakbpmeebnaagreat", sum := "e1385808f5dafd535a4396f36a44a842c9da952be1c86de4d1dd4346b76d617d", func := "etchant/etchantlaw10.GapOf", spec := "gapOf", unfollowed := true, recurses := true, apart := false, narrowed := true }
def GapOfUptoSaid : Prop := gapOfUptoRow.holds Tryz.pinned (OpenSpec.upto gapOfSpec)

/-- 'etchantlaw10.GapHolds', WHERE WHAT IT READS IS OF BULK AT MOST 1048576: true; the input reads as it did. -/
def gapHoldsUptoRow : OpenClaim := { program := "yteajakbpmeebnaagreat", sum := "e1385808f5dafd535a4396f36a44a842c9da952be1c86de4d1dd4346b76d617d", func := "etchant/etchantlaw10.GapHolds", spec := "gapHolds", unfollowed := true, recurses := true, apart := false, narrowed := true }
def GapHoldsUptoSaid : Prop := gapHoldsUptoRow.holds Tryz.pinned (OpenSpec.upto gapHoldsSpec)

end Rows
end Go.Proofs.YteajakbpmeebnaaGreat
