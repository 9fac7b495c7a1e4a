/-
  No cell of these rows narrows 'for every input' (looked for: loops, veiled, ifaces, maps, wideKeys, modest, calm, conditions, laid).
  DERIVED. THE GIVEN ROWS OF THIS SEAT. 4 by the template 'for every input the law returns true; each argument reads behind the call as it read before'; 0 by the template 'total and deterministic' (their statements: YtghemgdfmldoeaaGreatTotals.lean).
  GIVEN WITH THE SEED: the statements are not yours to turn. If you find one false, say at which input.
  Laid BY PROGRAM, IN A SANDBOX (cutbox-rows.mjs): the forced cells as the released guide's own fill.sh prints them over the translation ae7e05afd41bec3a… (all of the seat's roots in one cut). By AI agents, Wed Nov 11 2026. No macro, syntax, notation, axiom, sorry.
-/
import Derived.Test.YtghemgdfmldoeaaGreatChecked
import GoSem.Claim
import GoSem.ClaimJoined
import GoSem.ClaimMapViews
import Derived.JoinedTies
import Derived.KernelRfl
namespace Go.Proofs.YtghemgdfmldoeaaGreat
/- THE CELL 'sum', in the pinned program and in every row, IS THE sha256 OF THE DUMP (.gsa) THAT YtghemgdfmldoeaaGreatProg.lean LOADS. Nothing in Lean hashes anything: it is a label: what it is worth is what the hold of that sum in a sandbox is worth. -/
noncomputable def Tryz.pinned : Pinned := { name := "ytghemgdfmldoeaagreat", sum := "ae7e05afd41bec3a1c707f1f9fb29ec59019168ae27ab0d2bcdb8fb89852b55e", checked := Tryz.checked }
namespace Rows
def none {H : Type} : Left H := { results := [], args := [] }

/-- 'etchantlaw10.GapOf': WHATEVER THE INPUT: true; the input reads as it did. -/
def gapOfSpec : ChangeSpec := { name := "gapOf", fn := fun _ => fun
  | [d1, d2, d3] => { results := [.lit (.bool true)], args := [d1, d2, d3] }
  | _ => none }
def gapOfRow : OpenClaim := { program := "ytghemgdfmldoeaagreat", sum := "ae7e05afd41bec3a1c707f1f9fb29ec59019168ae27ab0d2bcdb8fb89852b55e", func := "etchant/etchantlaw10.GapOf", spec := "gapOf", unfollowed := true, recurses := true, apart := false }
def GapOfSaid : Prop := gapOfRow.holds Tryz.pinned (OpenSpec.ofChange gapOfSpec)

/-- ITS FALSE NEIGHBOUR: 'it returns false'. Refute it at one input. -/
def gapOfWrong : ChangeSpec := { name := "gapOf", fn := fun _ => fun
  | [d1, d2, d3] => { results := [.lit (.bool false)], args := [d1, d2, d3] }
  | _ => none }
def GapOfWrongFalsely : Prop := gapOfRow.holds Tryz.pinned (OpenSpec.ofChange gapOfWrong)

/-- 'etchantlaw40.PanelLists': WHATEVER THE INPUT: true; the input reads as it did. -/
def panelListsSpec : ChangeSpec := { name := "panelLists", fn := fun _ => fun
  | [d1, d2, d3] => { results := [.lit (.bool true)], args := [d1, d2, d3] }
  | _ => none }
def panelListsRow : OpenClaim := { program := "ytghemgdfmldoeaagreat", sum := "ae7e05afd41bec3a1c707f1f9fb29ec59019168ae27ab0d2bcdb8fb89852b55e", func := "etchant/etchantlaw40.PanelLists", spec := "panelLists", unfollowed := true, recurses := true, apart := false }
def PanelListsSaid : Prop := panelListsRow.holds Tryz.pinned (OpenSpec.ofChange panelListsSpec)

/-- ITS FALSE NEIGHBOUR: 'it returns false'. Refute it at one input. -/
def panelListsWrong : ChangeSpec := { name := "panelLists", fn := fun _ => fun
  | [d1, d2, d3] => { results := [.lit (.bool false)], args := [d1, d2, d3] }
  | _ => none }
def PanelListsWrongFalsely : Prop := panelListsRow.holds Tryz.pinned (OpenSpec.ofChange panelListsWrong)

/-- 'etchantlaw40.PanelSingle': WHATEVER THE INPUT: true; the input reads as it did. -/
def panelSingleSpec : ChangeSpec := { name := "panelSingle", fn := fun _ => fun
  | [d] => { results := [.lit (.bool true)], args := [d] }
  | _ => none }
def panelSingleRow : OpenClaim := { program := "ytghemgdfmldoeaagreat", sum := "ae7e05afd41bec3a1c707f1f9fb29ec59019168ae27ab0d2bcdb8fb89852b55e", func := "etchant/etchantlaw40.PanelSingle", spec := "panelSingle", unfollowed := true, recurses := true, apart := false }
def PanelSingleSaid : Prop := panelSingleRow.holds Tryz.pinned (OpenSpec.ofChange panelSingleSpec)

/-- ITS FALSE NEIGHBOUR: 'it returns false'. Refute it at one input. -/
def panelSingleWrong : ChangeSpec := { name := "panelSingle", fn := fun _ => fun
  | [d] => { results := [.lit (.bool false)], args := [d] }
  | _ => none }
def PanelSingleWrongFalsely : Prop := panelSingleRow.holds Tryz.pinned (OpenSpec.ofChange panelSingleWrong)

/-- 'etchantlaw40.PanelCopies': WHATEVER THE INPUT: true; the input reads as it did. -/
def panelCopiesSpec : ChangeSpec := { name := "panelCopies", fn := fun _ => fun
  | [d] => { results := [.lit (.bool true)], args := [d] }
  | _ => none }
def panelCopiesRow : OpenClaim := { program := "ytghemgdfmldoeaagreat", sum := "ae7e05afd41bec3a1c707f1f9fb29ec59019168ae27ab0d2bcdb8fb89852b55e", func := "etchant/etchantlaw40.PanelCopies", spec := "panelCopies", unfollowed := true, recurses := true, apart := false }
def PanelCopiesSaid : Prop := panelCopiesRow.holds Tryz.pinned (OpenSpec.ofChange panelCopiesSpec)

/-- ITS FALSE NEIGHBOUR: 'it returns false'. Refute it at one input. -/
def panelCopiesWrong : ChangeSpec := { name := "panelCopies", fn := fun _ => fun
  | [d] => { results := [.lit (.bool false)], args := [d] }
  | _ => none }
def PanelCopiesWrongFalsely : Prop := panelCopiesRow.holds Tryz.pinned (OpenSpec.ofChange panelCopiesWrong)

/- THE SECOND FORM. 'bulk': how many values and letters a reading holds, each counted each time it is reached (what is shared counts as often as it is met; a slice's spare places count too). A statement '..UptoSaid' is the law's where the arguments, and the package variables that the reading takes, are together of bulk at most 1048576: NARROWER than '..Said'. Prove '..Said' where nothing that the law and all that it calls make is longer than what came in: it says more and counts as full. Else prove '..UptoSaid'. A law counts once. -/
mutual
def uptoBulk {H : Type} : DataW H → Nat
  | .lit (.string bytes) => bytes.length + 1
  | .lit _ => 1
  | .nil => 1
  | .ptr d => uptoBulk d + 1
  | .slice elems spare => uptoBulkAll elems + uptoBulkAll spare + 1
  | .agg parts => uptoBulkAll parts + 1
  | .iface _ d => uptoBulk d + 1
  | .map entries => uptoBulkEntries entries + 1
  | .held _ => 1
def uptoBulkAll {H : Type} : List (DataW H) → Nat
  | [] => 0
  | d :: r => uptoBulk d + uptoBulkAll r
def uptoBulkEntries {H : Type} : List (Lit × DataW H) → Nat
  | [] => 0
  | x :: r => uptoBulkEntry x + uptoBulkEntries r
def uptoBulkEntry {H : Type} : Lit × DataW H → Nat
  | (.string bytes, d) => bytes.length + uptoBulk d + 1
  | (_, d) => uptoBulk d + 1
 end
def uptoSmall : (H : Type) → List (DataW H) → Bool := fun _ ds => decide (uptoBulkAll ds ≤ 1048576)
def OpenSpec.upto (s : _root_.Go.ChangeSpec) : _root_.Go.OpenSpec := { _root_.Go.OpenSpec.ofChange s with cond := some uptoSmall }

/-- 'etchantlaw10.GapOf', WHERE WHAT IT READS IS OF BULK AT MOST 1048576: true; the input reads as it did. -/
def gapOfUptoRow : OpenClaim := { program := "ytghemgdfmldoeaagreat", sum := "ae7e05afd41bec3a1c707f1f9fb29ec59019168ae27ab0d2bcdb8fb89852b55e", func := "etchant/etchantlaw10.GapOf", spec := "gapOf", unfollowed := true, recurses := true, apart := false, narrowed := true }
def GapOfUptoSaid : Prop := gapOfUptoRow.holds Tryz.pinned (OpenSpec.upto gapOfSpec)

/-- 'etchantlaw40.PanelLists', WHERE WHAT IT READS IS OF BULK AT MOST 1048576: true; the input reads as it did. -/
def panelListsUptoRow : OpenClaim := { program := "ytghemgdfmldoeaagreat", sum := "ae7e05afd41bec3a1c707f1f9fb29ec59019168ae27ab0d2bcdb8fb89852b55e", func := "etchant/etchantlaw40.PanelLists", spec := "panelLists", unfollowed := true, recurses := true, apart := false, narrowed := true }
def PanelListsUptoSaid : Prop := panelListsUptoRow.holds Tryz.pinned (OpenSpec.upto panelListsSpec)

/-- 'etchantlaw40.PanelSingle', WHERE WHAT IT READS IS OF BULK AT MOST 1048576: true; the input reads as it did. -/
def panelSingleUptoRow : OpenClaim := { program := "ytghemgdfmldoeaagreat", sum := "ae7e05afd41bec3a1c707f1f9fb29ec59019168ae27ab0d2bcdb8fb89852b55e", func := "etchant/etchantlaw40.PanelSingle", spec := "panelSingle", unfollowed := true, recurses := true, apart := false, narrowed := true }
def PanelSingleUptoSaid : Prop := panelSingleUptoRow.holds Tryz.pinned (OpenSpec.upto panelSingleSpec)

/-- 'etchantlaw40.PanelCopies', WHERE WHAT IT READS IS OF BULK AT MOST 1048576: true; the input reads as it did. -/
def panelCopiesUptoRow : OpenClaim := { program := "ytghemgdfmldoeaagreat", sum := "ae7e05afd41bec3a1c707f1f9fb29ec59019168ae27ab0d2bcdb8fb89852b55e", func := "etchant/etchantlaw40.PanelCopies", spec := "panelCopies", unfollowed := true, recurses := true, apart := false, narrowed := true }
def PanelCopiesUptoSaid : Prop := panelCopiesUptoRow.holds Tryz.pinned (OpenSpec.upto panelCopiesSpec)

end Rows
end Go.Proofs.YtghemgdfmldoeaaGreat
