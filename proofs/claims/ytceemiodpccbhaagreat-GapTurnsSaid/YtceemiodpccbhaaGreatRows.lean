/-
  No cell of these rows narrows 'for every input' (looked for: loops, veiled, ifaces, maps, wideKeys, modest, calm, conditions, laid).
  DERIVED. THE GIVEN ROWS OF THIS SEAT. 7 by the template 'for every input the law returns true; each argument reads behind the call as it read before'; 0 by the template 'total and deterministic' (their statements: YtceemiodpccbhaaGreatTotals.lean).
  GIVEN WITH THE SEED: the statements are not yours to turn. If you find one false, say at which input.
  Laid BY PROGRAM, IN A SANDBOX (cutbox-rows.mjs): the forced cells as the released guide's own fill.sh prints them over the translation 40c90391a5779934… (all of the seat's roots in one cut). By AI agents, Wed Nov 11 2026. No macro, syntax, notation, axiom, sorry.
-/
import Derived.Test.YtceemiodpccbhaaGreatChecked
import GoSem.Claim
import GoSem.ClaimJoined
import GoSem.ClaimMapViews
import Derived.JoinedTies
import Derived.KernelRfl
namespace Go.Proofs.YtceemiodpccbhaaGreat
/- THE CELL 'sum', in the pinned program and in every row, IS THE sha256 OF THE DUMP (.gsa) THAT YtceemiodpccbhaaGreatProg.lean LOADS. Nothing in Lean hashes anything: it is a label: what it is worth is what the hold of that sum in a sandbox is worth. -/
noncomputable def Tryz.pinned : Pinned := { name := "ytceemiodpccbhaagreat", sum := "40c90391a5779934ca726890e1a8f83b0c7f2fce4dbf4aaeda72926c0615584e", checked := Tryz.checked }
namespace Rows
def none {H : Type} : Left H := { results := [], args := [] }

/-- 'etchantlaw10.GapRaw': WHATEVER THE INPUT: true; the input reads as it did. -/
def gapRawSpec : ChangeSpec := { name := "gapRaw", fn := fun _ => fun
  | [d1, d2, d3] => { results := [.lit (.bool true)], args := [d1, d2, d3] }
  | _ => none }
def gapRawRow : OpenClaim := { program := "ytceemiodpccbhaagreat", sum := "40c90391a5779934ca726890e1a8f83b0c7f2fce4dbf4aaeda72926c0615584e", func := "etchant/etchantlaw10.GapRaw", spec := "gapRaw", unfollowed := true, recurses := true, apart := false }
def GapRawSaid : Prop := gapRawRow.holds Tryz.pinned (OpenSpec.ofChange gapRawSpec)

/-- ITS FALSE NEIGHBOUR: 'it returns false'. Refute it at one input. -/
def gapRawWrong : ChangeSpec := { name := "gapRaw", fn := fun _ => fun
  | [d1, d2, d3] => { results := [.lit (.bool false)], args := [d1, d2, d3] }
  | _ => none }
def GapRawWrongFalsely : Prop := gapRawRow.holds Tryz.pinned (OpenSpec.ofChange gapRawWrong)

/-- 'etchantlaw10.GapDiscs': WHATEVER THE INPUT: true; the input reads as it did. -/
def gapDiscsSpec : ChangeSpec := { name := "gapDiscs", fn := fun _ => fun
  | [d1, d2, d3] => { results := [.lit (.bool true)], args := [d1, d2, d3] }
  | _ => none }
def gapDiscsRow : OpenClaim := { program := "ytceemiodpccbhaagreat", sum := "40c90391a5779934ca726890e1a8f83b0c7f2fce4dbf4aaeda72926c0615584e", func := "etchant/etchantlaw10.GapDiscs", spec := "gapDiscs", unfollowed := true, recurses := true, apart := false }
def GapDiscsSaid : Prop := gapDiscsRow.holds Tryz.pinned (OpenSpec.ofChange gapDiscsSpec)

/-- ITS FALSE NEIGHBOUR: 'it returns false'. Refute it at one input. -/
def gapDiscsWrong : ChangeSpec := { name := "gapDiscs", fn := fun _ => fun
  | [d1, d2, d3] => { results := [.lit (.bool false)], args := [d1, d2, d3] }
  | _ => none }
def GapDiscsWrongFalsely : Prop := gapDiscsRow.holds Tryz.pinned (OpenSpec.ofChange gapDiscsWrong)

/-- 'etchantlaw10.GapOf': WHATEVER THE INPUT: true; the input reads as it did. -/
def gapOfSpec : ChangeSpec := { name := "gapOf", fn := fun _ => fun
  | [d1, d2, d3] => { results := [.lit (.bool true)], args := [d1, d2, d3] }
  | _ => none }
def gapOfRow : OpenClaim := { program := "ytceemiodpccbhaagreat", sum := "40c90391a5779934ca726890e1a8f83b0c7f2fce4dbf4aaeda72926c0615584e", func := "etchant/etchantlaw10.GapOf", spec := "gapOf", unfollowed := true, recurses := true, apart := false }
def GapOfSaid : Prop := gapOfRow.holds Tryz.pinned (OpenSpec.ofChange gapOfSpec)

/-- ITS FALSE NEIGHBOUR: 'it returns false'. Refute it at one input. -/
def gapOfWrong : ChangeSpec := { name := "gapOf", fn := fun _ => fun
  | [d1, d2, d3] => { results := [.lit (.bool false)], args := [d1, d2, d3] }
  | _ => none }
def GapOfWrongFalsely : Prop := gapOfRow.holds Tryz.pinned (OpenSpec.ofChange gapOfWrong)

/-- 'etchantlaw10.GapTurns': WHATEVER THE INPUT: true; the input reads as it did. -/
def gapTurnsSpec : ChangeSpec := { name := "gapTurns", fn := fun _ => fun
  | [d1, d2, d3] => { results := [.lit (.bool true)], args := [d1, d2, d3] }
  | _ => none }
def gapTurnsRow : OpenClaim := { program := "ytceemiodpccbhaagreat", sum := "40c90391a5779934ca726890e1a8f83b0c7f2fce4dbf4aaeda72926c0615584e", func := "etchant/etchantlaw10.GapTurns", spec := "gapTurns", unfollowed := true, recurses := true, apart := false }
def GapTurnsSaid : Prop := gapTurnsRow.holds Tryz.pinned (OpenSpec.ofChange gapTurnsSpec)

/-- ITS FALSE NEIGHBOUR: 'it returns false'. Refute it at one input. -/
def gapTurnsWrong : ChangeSpec := { name := "gapTurns", fn := fun _ => fun
  | [d1, d2, d3] => { results := [.lit (.bool false)], args := [d1, d2, d3] }
  | _ => none }
def GapTurnsWrongFalsely : Prop := gapTurnsRow.holds Tryz.pinned (OpenSpec.ofChange gapTurnsWrong)

/-- 'etchantlaw10.GapRadius': WHATEVER THE INPUT: true; the input reads as it did. -/
def gapRadiusSpec : ChangeSpec := { name := "gapRadius", fn := fun _ => fun
  | [d1, d2, d3] => { results := [.lit (.bool true)], args := [d1, d2, d3] }
  | _ => none }
def gapRadiusRow : OpenClaim := { program := "ytceemiodpccbhaagreat", sum := "40c90391a5779934ca726890e1a8f83b0c7f2fce4dbf4aaeda72926c0615584e", func := "etchant/etchantlaw10.GapRadius", spec := "gapRadius", unfollowed := true, recurses := true, apart := false }
def GapRadiusSaid : Prop := gapRadiusRow.holds Tryz.pinned (OpenSpec.ofChange gapRadiusSpec)

/-- ITS FALSE NEIGHBOUR: 'it returns false'. Refute it at one input. -/
def gapRadiusWrong : ChangeSpec := { name := "gapRadius", fn := fun _ => fun
  | [d1, d2, d3] => { results := [.lit (.bool false)], args := [d1, d2, d3] }
  | _ => none }
def GapRadiusWrongFalsely : Prop := gapRadiusRow.holds Tryz.pinned (OpenSpec.ofChange gapRadiusWrong)

/-- 'etchantlaw10.GapHolds': WHATEVER THE INPUT: true; the input reads as it did. -/
def gapHoldsSpec : ChangeSpec := { name := "gapHolds", fn := fun _ => fun
  | [d1, d2, d3] => { results := [.lit (.bool true)], args := [d1, d2, d3] }
  | _ => none }
def gapHoldsRow : OpenClaim := { program := "ytceemiodpccbhaagreat", sum := "40c90391a5779934ca726890e1a8f83b0c7f2fce4dbf4aaeda72926c0615584e", func := "etchant/etchantlaw10.GapHolds", spec := "gapHolds", unfollowed := true, recurses := true, apart := false }
def GapHoldsSaid : Prop := gapHoldsRow.holds Tryz.pinned (OpenSpec.ofChange gapHoldsSpec)

/-- ITS FALSE NEIGHBOUR: 'it returns false'. Refute it at one input. -/
def gapHoldsWrong : ChangeSpec := { name := "gapHolds", fn := fun _ => fun
  | [d1, d2, d3] => { results := [.lit (.bool false)], args := [d1, d2, d3] }
  | _ => none }
def GapHoldsWrongFalsely : Prop := gapHoldsRow.holds Tryz.pinned (OpenSpec.ofChange gapHoldsWrong)

/-- 'etchantlaw10.GapSpots': WHATEVER THE INPUT: true; the input reads as it did. -/
def gapSpotsSpec : ChangeSpec := { name := "gapSpots", fn := fun _ => fun
  | [d1, d2, d3] => { results := [.lit (.bool true)], args := [d1, d2, d3] }
  | _ => none }
def gapSpotsRow : OpenClaim := { program := "ytceemiodpccbhaagreat", sum := "40c90391a5779934ca726890e1a8f83b0c7f2fce4dbf4aaeda72926c0615584e", func := "etchant/etchantlaw10.GapSpots", spec := "gapSpots", unfollowed := true, recurses := true, apart := false }
def GapSpotsSaid : Prop := gapSpotsRow.holds Tryz.pinned (OpenSpec.ofChange gapSpotsSpec)

/-- ITS FALSE NEIGHBOUR: 'it returns false'. Refute it at one input. -/
def gapSpotsWrong : ChangeSpec := { name := "gapSpots", fn := fun _ => fun
  | [d1, d2, d3] => { results := [.lit (.bool false)], args := [d1, d2, d3] }
  | _ => none }
def GapSpotsWrongFalsely : Prop := gapSpotsRow.holds Tryz.pinned (OpenSpec.ofChange gapSpotsWrong)

/- THE SECOND FORM. 'bulk': how many values and letters a reading holds, each counted each time it is reached (what is shared counts as often as it is met; a slice's spare places count too). A statement '..UptoSaid' is the law's where the arguments, and the package variables that the reading takes, are together of bulk at most 1048576: NARROWER than '..Said'. Prove '..Said' where nothing that the law and all that it calls make is longer than what came in: it says more and counts as full. Else prove '..UptoSaid'. A law counts once. -/
mutual
def uptoBulk {H : Type} : DataW H → Nat
  | .lit (.string bytes) => bytes.length + 1
  | .lit _ => 1
  | .nil => 1
  | .ptr d => uptoBulk d + 1
  | .slice elems spare => uptoBulkAll elems + uptoBulkAll spare + 1
  | .agg parts => uptoBulkAll parts + 1
  | .iface _ d => uptoBulk d + 1
  | .map entries => uptoBulkEntries entries + 1
  | .held _ => 1
def uptoBulkAll {H : Type} : List (DataW H) → Nat
  | [] => 0
  | d :: r => uptoBulk d + uptoBulkAll r
def uptoBulkEntries {H : Type} : List (Lit × DataW H) → Nat
  | [] => 0
  | x :: r => uptoBulkEntry x + uptoBulkEntries r
def uptoBulkEntry {H : Type} : Lit × DataW H → Nat
  | (.string bytes, d) => bytes.length + uptoBulk d + 1
  | (_, d) => uptoBulk d + 1
 end
def uptoSmall : (H : Type) → List (DataW H) → Bool := fun _ ds => decide (uptoBulkAll ds ≤ 1048576)
def OpenSpec.upto (s : _root_.Go.ChangeSpec) : _root_.Go.OpenSpec := { _root_.Go.OpenSpec.ofChange s with cond := some uptoSmall }

/-- 'etchantlaw10.GapRaw', WHERE WHAT IT READS IS OF BULK AT MOST 1048576: true; the input reads as it did. -/
def gapRawUptoRow : OpenClaim := { program := "ytceemiodpccbhaagreat", sum := "40c90391a5779934ca726890e1a8f83b0c7f2fce4dbf4aaeda72926c0615584e", func := "etchant/etchantlaw10.GapRaw", spec := "gapRaw", unfollowed := true, recurses := true, apart := false, narrowed := true }
def GapRawUptoSaid : Prop := gapRawUptoRow.holds Tryz.pinned (OpenSpec.upto gapRawSpec)

/-- 'etchantlaw10.GapDiscs', WHERE WHAT IT READS IS OF BULK AT MOST 1048576: true; the input reads as it did. -/
def gapDiscsUptoRow : OpenClaim := { program := "ytceemiodpccbhaagreat", sum := "40c90391a5779934ca726890e1a8f83b0c7f2fce4dbf4aaeda72926c0615584e", func := "etchant/etchantlaw10.GapDiscs", spec := "gapDiscs", unfollowed := true, recurses := true, apart := false, narrowed := true }
def GapDiscsUptoSaid : Prop := gapDiscsUptoRow.holds Tryz.pinned (OpenSpec.upto gapDiscsSpec)

/-- 'etchantlaw10.GapOf', WHERE WHAT IT READS IS OF BULK AT MOST 1048576: true; the input reads as it did. -/
def gapOfUptoRow : OpenClaim := { program := "ytceemiodpccbhaagreat", sum := "40c90391a5779934ca726890e1a8f83b0c7f2fce4dbf4aaeda72926c0615584e", func := "etchant/etchantlaw10.GapOf", spec := "gapOf", unfollowed := true, recurses := true, apart := false, narrowed := true }
def GapOfUptoSaid : Prop := gapOfUptoRow.holds Tryz.pinned (OpenSpec.upto gapOfSpec)

/-- 'etchantlaw10.GapTurns', WHERE WHAT IT READS IS OF BULK AT MOST 1048576: true; the input reads as it did. -/
def gapTurnsUptoRow : OpenClaim := { program := "ytceemiodpccbhaagreat", sum := "40c90391a5779934ca726890e1a8f83b0c7f2fce4dbf4aaeda72926c0615584e", func := "etchant/etchantlaw10.GapTurns", spec := "gapTurns", unfollowed := true, recurses := true, apart := false, narrowed := true }
def GapTurnsUptoSaid : Prop := gapTurnsUptoRow.holds Tryz.pinned (OpenSpec.upto gapTurnsSpec)

/-- 'etchantlaw10.GapRadius', WHERE WHAT IT READS IS OF BULK AT MOST 1048576: true; the input reads as it did. -/
def gapRadiusUptoRow : OpenClaim := { program := "ytceemiodpccbhaagreat", sum := "40c90391a5779934ca726890e1a8f83b0c7f2fce4dbf4aaeda72926c0615584e", func := "etchant/etchantlaw10.GapRadius", spec := "gapRadius", unfollowed := true, recurses := true, apart := false, narrowed := true }
def GapRadiusUptoSaid : Prop := gapRadiusUptoRow.holds Tryz.pinned (OpenSpec.upto gapRadiusSpec)

/-- 'etchantlaw10.GapHolds', WHERE WHAT IT READS IS OF BULK AT MOST 1048576: true; the input reads as it did. -/
def gapHoldsUptoRow : OpenClaim := { program := "ytceemiodpccbhaagreat", sum := "40c90391a5779934ca726890e1a8f83b0c7f2fce4dbf4aaeda72926c0615584e", func := "etchant/etchantlaw10.GapHolds", spec := "gapHolds", unfollowed := true, recurses := true, apart := false, narrowed := true }
def GapHoldsUptoSaid : Prop := gapHoldsUptoRow.holds Tryz.pinned (OpenSpec.upto gapHoldsSpec)

/-- 'etchantlaw10.GapSpots', WHERE WHAT IT READS IS OF BULK AT MOST 1048576: true; the input reads as it did. -/
def gapSpotsUptoRow : OpenClaim := { program := "ytceemiodpccbhaagreat", sum := "40c90391a5779934ca726890e1a8f83b0c7f2fce4dbf4aaeda72926c0615584e", func := "etchant/etchantlaw10.GapSpots", spec := "gapSpots", unfollowed := true, recurses := true, apart := false, narrowed := true }
def GapSpotsUptoSaid : Prop := gapSpotsUptoRow.holds Tryz.pinned (OpenSpec.upto gapSpotsSpec)

end Rows
end Go.Proofs.YtceemiodpccbhaaGreat
