/-
  No cell of these rows narrows 'for every input' (looked for: loops, veiled, ifaces, maps, wideKeys, modest, calm, conditions, laid).
  DERIVED. THE GIVEN ROWS OF THIS SEAT. 6 by the template 'for every input the law returns true; each argument reads behind the call as it read before'; 0 by the template 'total and deterministic' (their statements: YtighahcllmoajaaGreatTotals.lean).
  GIVEN WITH THE SEED: the statements are not yours to turn. If you find one false, say at which input.
  Laid BY PROGRAM, IN A SANDBOX (cutbox-rows.mjs): the forced cells as the released guide's own fill.sh prints them over the translation abf5223600953ac7… (all of the seat's roots in one cut). By AI agents, Wed Nov 11 2026. No macro, syntax, notation, axiom, sorry.
-/
import Derived.Test.YtighahcllmoajaaGreatChecked
import GoSem.Claim
import GoSem.ClaimJoined
import GoSem.ClaimMapViews
import Derived.JoinedTies
import Derived.KernelRfl
namespace Go.Proofs.YtighahcllmoajaaGreat
/- THE CELL 'sum', in the pinned program and in every row, IS THE sha256 OF THE DUMP (.gsa) THAT YtighahcllmoajaaGreatProg.lean LOADS. Nothing in Lean hashes anything: it is a label: what it is worth is what the hold of that sum in a sandbox is worth. -/
noncomputable def Tryz.pinned : Pinned := { name := "ytighahcllmoajaagreat", sum := "abf5223600953ac7e91d861f48d0bdd81da727cc838e43f675f2f95748744498", checked := Tryz.checked }
namespace Rows
def none {H : Type} : Left H := { results := [], args := [] }

/-- 'etchantlaw08.NearPoints': WHATEVER THE INPUT: true; the input reads as it did. -/
def nearPointsSpec : ChangeSpec := { name := "nearPoints", fn := fun _ => fun
  | [d1, d2, d3] => { results := [.lit (.bool true)], args := [d1, d2, d3] }
  | _ => none }
def nearPointsRow : OpenClaim := { program := "ytighahcllmoajaagreat", sum := "abf5223600953ac7e91d861f48d0bdd81da727cc838e43f675f2f95748744498", func := "etchant/etchantlaw08.NearPoints", spec := "nearPoints", unfollowed := true, recurses := true, apart := false }
def NearPointsSaid : Prop := nearPointsRow.holds Tryz.pinned (OpenSpec.ofChange nearPointsSpec)

/-- ITS FALSE NEIGHBOUR: 'it returns false'. Refute it at one input. -/
def nearPointsWrong : ChangeSpec := { name := "nearPoints", fn := fun _ => fun
  | [d1, d2, d3] => { results := [.lit (.bool false)], args := [d1, d2, d3] }
  | _ => none }
def NearPointsWrongFalsely : Prop := nearPointsRow.holds Tryz.pinned (OpenSpec.ofChange nearPointsWrong)

/-- 'etchantlaw08.NearEdges': WHATEVER THE INPUT: true; the input reads as it did. -/
def nearEdgesSpec : ChangeSpec := { name := "nearEdges", fn := fun _ => fun
  | [d1, d2, d3] => { results := [.lit (.bool true)], args := [d1, d2, d3] }
  | _ => none }
def nearEdgesRow : OpenClaim := { program := "ytighahcllmoajaagreat", sum := "abf5223600953ac7e91d861f48d0bdd81da727cc838e43f675f2f95748744498", func := "etchant/etchantlaw08.NearEdges", spec := "nearEdges", unfollowed := true, recurses := true, apart := false }
def NearEdgesSaid : Prop := nearEdgesRow.holds Tryz.pinned (OpenSpec.ofChange nearEdgesSpec)

/-- ITS FALSE NEIGHBOUR: 'it returns false'. Refute it at one input. -/
def nearEdgesWrong : ChangeSpec := { name := "nearEdges", fn := fun _ => fun
  | [d1, d2, d3] => { results := [.lit (.bool false)], args := [d1, d2, d3] }
  | _ => none }
def NearEdgesWrongFalsely : Prop := nearEdgesRow.holds Tryz.pinned (OpenSpec.ofChange nearEdgesWrong)

/-- 'etchantlaw08.NearLeast': WHATEVER THE INPUT: true; the input reads as it did. -/
def nearLeastSpec : ChangeSpec := { name := "nearLeast", fn := fun _ => fun
  | [d1, d2, d3] => { results := [.lit (.bool true)], args := [d1, d2, d3] }
  | _ => none }
def nearLeastRow : OpenClaim := { program := "ytighahcllmoajaagreat", sum := "abf5223600953ac7e91d861f48d0bdd81da727cc838e43f675f2f95748744498", func := "etchant/etchantlaw08.NearLeast", spec := "nearLeast", unfollowed := true, recurses := true, apart := false }
def NearLeastSaid : Prop := nearLeastRow.holds Tryz.pinned (OpenSpec.ofChange nearLeastSpec)

/-- ITS FALSE NEIGHBOUR: 'it returns false'. Refute it at one input. -/
def nearLeastWrong : ChangeSpec := { name := "nearLeast", fn := fun _ => fun
  | [d1, d2, d3] => { results := [.lit (.bool false)], args := [d1, d2, d3] }
  | _ => none }
def NearLeastWrongFalsely : Prop := nearLeastRow.holds Tryz.pinned (OpenSpec.ofChange nearLeastWrong)

/-- 'etchantlaw08.NearScales': WHATEVER THE INPUT: true; the input reads as it did. -/
def nearScalesSpec : ChangeSpec := { name := "nearScales", fn := fun _ => fun
  | [d1, d2, d3] => { results := [.lit (.bool true)], args := [d1, d2, d3] }
  | _ => none }
def nearScalesRow : OpenClaim := { program := "ytighahcllmoajaagreat", sum := "abf5223600953ac7e91d861f48d0bdd81da727cc838e43f675f2f95748744498", func := "etchant/etchantlaw08.NearScales", spec := "nearScales", unfollowed := true, recurses := true, apart := false }
def NearScalesSaid : Prop := nearScalesRow.holds Tryz.pinned (OpenSpec.ofChange nearScalesSpec)

/-- ITS FALSE NEIGHBOUR: 'it returns false'. Refute it at one input. -/
def nearScalesWrong : ChangeSpec := { name := "nearScales", fn := fun _ => fun
  | [d1, d2, d3] => { results := [.lit (.bool false)], args := [d1, d2, d3] }
  | _ => none }
def NearScalesWrongFalsely : Prop := nearScalesRow.holds Tryz.pinned (OpenSpec.ofChange nearScalesWrong)

/-- 'etchantlaw08.NearSpots': WHATEVER THE INPUT: true; the input reads as it did. -/
def nearSpotsSpec : ChangeSpec := { name := "nearSpots", fn := fun _ => fun
  | [d1, d2] => { results := [.lit (.bool true)], args := [d1, d2] }
  | _ => none }
def nearSpotsRow : OpenClaim := { program := "ytighahcllmoajaagreat", sum := "abf5223600953ac7e91d861f48d0bdd81da727cc838e43f675f2f95748744498", func := "etchant/etchantlaw08.NearSpots", spec := "nearSpots", unfollowed := true, recurses := true, apart := false }
def NearSpotsSaid : Prop := nearSpotsRow.holds Tryz.pinned (OpenSpec.ofChange nearSpotsSpec)

/-- ITS FALSE NEIGHBOUR: 'it returns false'. Refute it at one input. -/
def nearSpotsWrong : ChangeSpec := { name := "nearSpots", fn := fun _ => fun
  | [d1, d2] => { results := [.lit (.bool false)], args := [d1, d2] }
  | _ => none }
def NearSpotsWrongFalsely : Prop := nearSpotsRow.holds Tryz.pinned (OpenSpec.ofChange nearSpotsWrong)

/-- 'etchantlaw08.NearSame': WHATEVER THE INPUT: true; the input reads as it did. -/
def nearSameSpec : ChangeSpec := { name := "nearSame", fn := fun _ => fun
  | [d1, d2, d3] => { results := [.lit (.bool true)], args := [d1, d2, d3] }
  | _ => none }
def nearSameRow : OpenClaim := { program := "ytighahcllmoajaagreat", sum := "abf5223600953ac7e91d861f48d0bdd81da727cc838e43f675f2f95748744498", func := "etchant/etchantlaw08.NearSame", spec := "nearSame", unfollowed := true, recurses := true, apart := false }
def NearSameSaid : Prop := nearSameRow.holds Tryz.pinned (OpenSpec.ofChange nearSameSpec)

/-- ITS FALSE NEIGHBOUR: 'it returns false'. Refute it at one input. -/
def nearSameWrong : ChangeSpec := { name := "nearSame", fn := fun _ => fun
  | [d1, d2, d3] => { results := [.lit (.bool false)], args := [d1, d2, d3] }
  | _ => none }
def NearSameWrongFalsely : Prop := nearSameRow.holds Tryz.pinned (OpenSpec.ofChange nearSameWrong)

/- THE SECOND FORM. 'bulk': how many values and letters a reading holds, each counted each time it is reached (what is shared counts as often as it is met; a slice's spare places count too). A statement '..UptoSaid' is the law's where the arguments, and the package variables that the reading takes, are together of bulk at most 1048576: NARROWER than '..Said'. Prove '..Said' where nothing that the law and all that it calls make is longer than what came in: it says more and counts as full. Else prove '..UptoSaid'. A law counts once. -/
mutual
def uptoBulk {H : Type} : DataW H → Nat
  | .lit (.string bytes) => bytes.length + 1
  | .lit _ => 1
  | .nil => 1
  | .ptr d => uptoBulk d + 1
  | .slice elems spare => uptoBulkAll elems + uptoBulkAll spare + 1
  | .agg parts => uptoBulkAll parts + 1
  | .iface _ d => uptoBulk d + 1
  | .map entries => uptoBulkEntries entries + 1
  | .held _ => 1
def uptoBulkAll {H : Type} : List (DataW H) → Nat
  | [] => 0
  | d :: r => uptoBulk d + uptoBulkAll r
def uptoBulkEntries {H : Type} : List (Lit × DataW H) → Nat
  | [] => 0
  | x :: r => uptoBulkEntry x + uptoBulkEntries r
def uptoBulkEntry {H : Type} : Lit × DataW H → Nat
  | (.string bytes, d) => bytes.length + uptoBulk d + 1
  | (_, d) => uptoBulk d + 1
 end
def uptoSmall : (H : Type) → List (DataW H) → Bool := fun _ ds => decide (uptoBulkAll ds ≤ 1048576)
def OpenSpec.upto (s : _root_.Go.ChangeSpec) : _root_.Go.OpenSpec := { _root_.Go.OpenSpec.ofChange s with cond := some uptoSmall }

/-- 'etchantlaw08.NearPoints', WHERE WHAT IT READS IS OF BULK AT MOST 1048576: true; the input reads as it did. -/
def nearPointsUptoRow : OpenClaim := { program := "ytighahcllmoajaagreat", sum := "abf5223600953ac7e91d861f48d0bdd81da727cc838e43f675f2f95748744498", func := "etchant/etchantlaw08.NearPoints", spec := "nearPoints", unfollowed := true, recurses := true, apart := false, narrowed := true }
def NearPointsUptoSaid : Prop := nearPointsUptoRow.holds Tryz.pinned (OpenSpec.upto nearPointsSpec)

/-- 'etchantlaw08.NearEdges', WHERE WHAT IT READS IS OF BULK AT MOST 1048576: true; the input reads as it did. -/
def nearEdgesUptoRow : OpenClaim := { program := "ytighahcllmoajaagreat", sum := "abf5223600953ac7e91d861f48d0bdd81da727cc838e43f675f2f95748744498", func := "etchant/etchantlaw08.NearEdges", spec := "nearEdges", unfollowed := true, recurses := true, apart := false, narrowed := true }
def NearEdgesUptoSaid : Prop := nearEdgesUptoRow.holds Tryz.pinned (OpenSpec.upto nearEdgesSpec)

/-- 'etchantlaw08.NearLeast', WHERE WHAT IT READS IS OF BULK AT MOST 1048576: true; the input reads as it did. -/
def nearLeastUptoRow : OpenClaim := { program := "ytighahcllmoajaagreat", sum := "abf5223600953ac7e91d861f48d0bdd81da727cc838e43f675f2f95748744498", func := "etchant/etchantlaw08.NearLeast", spec := "nearLeast", unfollowed := true, recurses := true, apart := false, narrowed := true }
def NearLeastUptoSaid : Prop := nearLeastUptoRow.holds Tryz.pinned (OpenSpec.upto nearLeastSpec)

/-- 'etchantlaw08.NearScales', WHERE WHAT IT READS IS OF BULK AT MOST 1048576: true; the input reads as it did. -/
def nearScalesUptoRow : OpenClaim := { program := "ytighahcllmoajaagreat", sum := "abf5223600953ac7e91d861f48d0bdd81da727cc838e43f675f2f95748744498", func := "etchant/etchantlaw08.NearScales", spec := "nearScales", unfollowed := true, recurses := true, apart := false, narrowed := true }
def NearScalesUptoSaid : Prop := nearScalesUptoRow.holds Tryz.pinned (OpenSpec.upto nearScalesSpec)

/-- 'etchantlaw08.NearSpots', WHERE WHAT IT READS IS OF BULK AT MOST 1048576: true; the input reads as it did. -/
def nearSpotsUptoRow : OpenClaim := { program := "ytighahcllmoajaagreat", sum := "abf5223600953ac7e91d861f48d0bdd81da727cc838e43f675f2f95748744498", func := "etchant/etchantlaw08.NearSpots", spec := "nearSpots", unfollowed := true, recurses := true, apart := false, narrowed := true }
def NearSpotsUptoSaid : Prop := nearSpotsUptoRow.holds Tryz.pinned (OpenSpec.upto nearSpotsSpec)

/-- 'etchantlaw08.NearSame', WHERE WHAT IT READS IS OF BULK AT MOST 1048576: true; the input reads as it did. -/
def nearSameUptoRow : OpenClaim := { program := "ytighahcllmoajaagreat", sum := "abf5223600953ac7e91d861f48d0bdd81da727cc838e43f675f2f95748744498", func := "etchant/etchantlaw08.NearSame", spec := "nearSame", unfollowed := true, recurses := true, apart := false, narrowed := true }
def NearSameUptoSaid : Prop := nearSameUptoRow.holds Tryz.pinned (OpenSpec.upto nearSameSpec)

end Rows
end Go.Proofs.YtighahcllmoajaaGreat
