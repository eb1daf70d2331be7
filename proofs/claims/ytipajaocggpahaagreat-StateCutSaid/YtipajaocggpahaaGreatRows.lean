/-
  No cell of these rows narrows 'for every input' (looked for: loops, veiled, ifaces, maps, wideKeys, modest, calm, conditions, laid).
  DERIVED. THE GIVEN ROWS OF THIS SEAT. 5 by the template 'for every input the law returns true; each argument reads behind the call as it read before'; 0 by the template 'total and deterministic' (their statements: YtipajaocggpahaaGreatTotals.lean).
  GIVEN WITH THE SEED: the statements are not yours to turn. If you find one false, say at which input.
  Laid BY PROGRAM, IN A SANDBOX (cutbox-rows.mjs): the forced cells as the released guide's own fill.sh prints them over the translation 2bdbdd6a84c9f01c… (all of the seat's roots in one cut). By AI agents, Wed Nov 11 2026. No macro, syntax, notation, axiom, sorry.
-/
import Derived.Test.YtipajaocggpahaaGreatChecked
import GoSem.Claim
import GoSem.ClaimJoined
import GoSem.ClaimMapViews
import Derived.JoinedTies
import Derived.KernelRfl
namespace Go.Proofs.YtipajaocggpahaaGreat
/- THE CELL 'sum', in the pinned program and in every row, IS THE sha256 OF THE DUMP (.gsa) THAT YtipajaocggpahaaGreatProg.lean LOADS. Nothing in Lean hashes anything: it is a label: what it is worth is what the hold of that sum in a sandbox is worth. -/
noncomputable def Tryz.pinned : Pinned := { name := "ytipajaocggpahaagreat", sum := "2bdbdd6a84c9f01cfd27e3f3ddd1c640fdad02c8b186d847a9bf037a1cb23eec", checked := Tryz.checked }
namespace Rows
def none {H : Type} : Left H := { results := [], args := [] }

/-- 'mooringslaw15.StateBack': WHATEVER THE INPUT: true; the input reads as it did. -/
def stateBackSpec : ChangeSpec := { name := "stateBack", fn := fun _ => fun
  | [d1, d2, d3] => { results := [.lit (.bool true)], args := [d1, d2, d3] }
  | _ => none }
def stateBackRow : OpenClaim := { program := "ytipajaocggpahaagreat", sum := "2bdbdd6a84c9f01cfd27e3f3ddd1c640fdad02c8b186d847a9bf037a1cb23eec", func := "moorings/mooringslaw15.StateBack", spec := "stateBack", inPlace := ["slices.overlaps[moorings/api.Lease]", "slices.overlaps[moorings/api.Held]"], unfollowed := true, recurses := true, apart := false }
def StateBackSaid : Prop := stateBackRow.holds Tryz.pinned (OpenSpec.ofChange stateBackSpec)

/-- ITS FALSE NEIGHBOUR: 'it returns false'. Refute it at one input. -/
def stateBackWrong : ChangeSpec := { name := "stateBack", fn := fun _ => fun
  | [d1, d2, d3] => { results := [.lit (.bool false)], args := [d1, d2, d3] }
  | _ => none }
def StateBackWrongFalsely : Prop := stateBackRow.holds Tryz.pinned (OpenSpec.ofChange stateBackWrong)

/-- 'mooringslaw15.StateStays': WHATEVER THE INPUT: true; the input reads as it did. -/
def stateStaysSpec : ChangeSpec := { name := "stateStays", fn := fun _ => fun
  | [d1, d2, d3] => { results := [.lit (.bool true)], args := [d1, d2, d3] }
  | _ => none }
def stateStaysRow : OpenClaim := { program := "ytipajaocggpahaagreat", sum := "2bdbdd6a84c9f01cfd27e3f3ddd1c640fdad02c8b186d847a9bf037a1cb23eec", func := "moorings/mooringslaw15.StateStays", spec := "stateStays", inPlace := ["slices.overlaps[moorings/api.Lease]", "slices.overlaps[moorings/api.Held]"], unfollowed := true, recurses := true, apart := false }
def StateStaysSaid : Prop := stateStaysRow.holds Tryz.pinned (OpenSpec.ofChange stateStaysSpec)

/-- ITS FALSE NEIGHBOUR: 'it returns false'. Refute it at one input. -/
def stateStaysWrong : ChangeSpec := { name := "stateStays", fn := fun _ => fun
  | [d1, d2, d3] => { results := [.lit (.bool false)], args := [d1, d2, d3] }
  | _ => none }
def StateStaysWrongFalsely : Prop := stateStaysRow.holds Tryz.pinned (OpenSpec.ofChange stateStaysWrong)

/-- 'mooringslaw15.StateShort': WHATEVER THE INPUT: true; the input reads as it did. -/
def stateShortSpec : ChangeSpec := { name := "stateShort", fn := fun _ => fun
  | [d] => { results := [.lit (.bool true)], args := [d] }
  | _ => none }
def stateShortRow : OpenClaim := { program := "ytipajaocggpahaagreat", sum := "2bdbdd6a84c9f01cfd27e3f3ddd1c640fdad02c8b186d847a9bf037a1cb23eec", func := "moorings/mooringslaw15.StateShort", spec := "stateShort", inPlace := ["slices.overlaps[moorings/api.Lease]", "slices.overlaps[moorings/api.Held]"], unfollowed := true, recurses := true, apart := false }
def StateShortSaid : Prop := stateShortRow.holds Tryz.pinned (OpenSpec.ofChange stateShortSpec)

/-- ITS FALSE NEIGHBOUR: 'it returns false'. Refute it at one input. -/
def stateShortWrong : ChangeSpec := { name := "stateShort", fn := fun _ => fun
  | [d] => { results := [.lit (.bool false)], args := [d] }
  | _ => none }
def StateShortWrongFalsely : Prop := stateShortRow.holds Tryz.pinned (OpenSpec.ofChange stateShortWrong)

/-- 'mooringslaw15.StateCut': WHATEVER THE INPUT: true; the input reads as it did. -/
def stateCutSpec : ChangeSpec := { name := "stateCut", fn := fun _ => fun
  | [d1, d2, d3] => { results := [.lit (.bool true)], args := [d1, d2, d3] }
  | _ => none }
def stateCutRow : OpenClaim := { program := "ytipajaocggpahaagreat", sum := "2bdbdd6a84c9f01cfd27e3f3ddd1c640fdad02c8b186d847a9bf037a1cb23eec", func := "moorings/mooringslaw15.StateCut", spec := "stateCut", inPlace := ["slices.overlaps[moorings/api.Lease]", "slices.overlaps[moorings/api.Held]"], unfollowed := true, recurses := true, apart := false }
def StateCutSaid : Prop := stateCutRow.holds Tryz.pinned (OpenSpec.ofChange stateCutSpec)

/-- ITS FALSE NEIGHBOUR: 'it returns false'. Refute it at one input. -/
def stateCutWrong : ChangeSpec := { name := "stateCut", fn := fun _ => fun
  | [d1, d2, d3] => { results := [.lit (.bool false)], args := [d1, d2, d3] }
  | _ => none }
def StateCutWrongFalsely : Prop := stateCutRow.holds Tryz.pinned (OpenSpec.ofChange stateCutWrong)

/-- 'mooringslaw15.StateJoins': WHATEVER THE INPUT: true; the input reads as it did. -/
def stateJoinsSpec : ChangeSpec := { name := "stateJoins", fn := fun _ => fun
  | [d1, d2, d3] => { results := [.lit (.bool true)], args := [d1, d2, d3] }
  | _ => none }
def stateJoinsRow : OpenClaim := { program := "ytipajaocggpahaagreat", sum := "2bdbdd6a84c9f01cfd27e3f3ddd1c640fdad02c8b186d847a9bf037a1cb23eec", func := "moorings/mooringslaw15.StateJoins", spec := "stateJoins", inPlace := ["slices.overlaps[moorings/api.Lease]", "slices.overlaps[moorings/api.Held]"], unfollowed := true, recurses := true, apart := false }
def StateJoinsSaid : Prop := stateJoinsRow.holds Tryz.pinned (OpenSpec.ofChange stateJoinsSpec)

/-- ITS FALSE NEIGHBOUR: 'it returns false'. Refute it at one input. -/
def stateJoinsWrong : ChangeSpec := { name := "stateJoins", fn := fun _ => fun
  | [d1, d2, d3] => { results := [.lit (.bool false)], args := [d1, d2, d3] }
  | _ => none }
def StateJoinsWrongFalsely : Prop := stateJoinsRow.holds Tryz.pinned (OpenSpec.ofChange stateJoinsWrong)

/- THE SECOND FORM. 'bulk': how many values and letters a reading holds, each counted each time it is reached (what is shared counts as often as it is met; a slice's spare places count too). A statement '..UptoSaid' is the law's where the arguments, and the package variables that the reading takes, are together of bulk at most 1048576: NARROWER than '..Said'. Prove '..Said' where nothing that the law and all that it calls make is longer than what came in: it says more and counts as full. Else prove '..UptoSaid'. A law counts once. -/
mutual
def uptoBulk {H : Type} : DataW H → Nat
  | .lit (.string bytes) => bytes.length + 1
  | .lit _ => 1
  | .nil => 1
  | .ptr d => uptoBulk d + 1
  | .slice elems spare => uptoBulkAll elems + uptoBulkAll spare + 1
  | .agg parts => uptoBulkAll parts + 1
  | .iface _ d => uptoBulk d + 1
  | .map entries => uptoBulkEntries entries + 1
  | .held _ => 1
def uptoBulkAll {H : Type} : List (DataW H) → Nat
  | [] => 0
  | d :: r => uptoBulk d + uptoBulkAll r
def uptoBulkEntries {H : Type} : List (Lit × DataW H) → Nat
  | [] => 0
  | x :: r => uptoBulkEntry x + uptoBulkEntries r
def uptoBulkEntry {H : Type} : Lit × DataW H → Nat
  | (.string bytes, d) => bytes.length + uptoBulk d + 1
  | (_, d) => uptoBulk d + 1
 end
def uptoSmall : (H : Type) → List (DataW H) → Bool := fun _ ds => decide (uptoBulkAll ds ≤ 1048576)
def OpenSpec.upto (s : _root_.Go.ChangeSpec) : _root_.Go.OpenSpec := { _root_.Go.OpenSpec.ofChange s with cond := some uptoSmall }

/-- 'mooringslaw15.StateBack', WHERE WHAT IT READS IS OF BULK AT MOST 1048576: true; the input reads as it did. -/
def stateBackUptoRow : OpenClaim := { program := "ytipajaocggpahaagreat", sum := "2bdbdd6a84c9f01cfd27e3f3ddd1c640fdad02c8b186d847a9bf037a1cb23eec", func := "moorings/mooringslaw15.StateBack", spec := "stateBack", inPlace := ["slices.overlaps[moorings/api.Lease]", "slices.overlaps[moorings/api.Held]"], unfollowed := true, recurses := true, apart := false, narrowed := true }
def StateBackUptoSaid : Prop := stateBackUptoRow.holds Tryz.pinned (OpenSpec.upto stateBackSpec)

/-- 'mooringslaw15.StateStays', WHERE WHAT IT READS IS OF BULK AT MOST 1048576: true; the input reads as it did. -/
def stateStaysUptoRow : OpenClaim := { program := "ytipajaocggpahaagreat", sum := "2bdbdd6a84c9f01cfd27e3f3ddd1c640fdad02c8b186d847a9bf037a1cb23eec", func := "moorings/mooringslaw15.StateStays", spec := "stateStays", inPlace := ["slices.overlaps[moorings/api.Lease]", "slices.overlaps[moorings/api.Held]"], unfollowed := true, recurses := true, apart := false, narrowed := true }
def StateStaysUptoSaid : Prop := stateStaysUptoRow.holds Tryz.pinned (OpenSpec.upto stateStaysSpec)

/-- 'mooringslaw15.StateShort', WHERE WHAT IT READS IS OF BULK AT MOST 1048576: true; the input reads as it did. -/
def stateShortUptoRow : OpenClaim := { program := "ytipajaocggpahaagreat", sum := "2bdbdd6a84c9f01cfd27e3f3ddd1c640fdad02c8b186d847a9bf037a1cb23eec", func := "moorings/mooringslaw15.StateShort", spec := "stateShort", inPlace := ["slices.overlaps[moorings/api.Lease]", "slices.overlaps[moorings/api.Held]"], unfollowed := true, recurses := true, apart := false, narrowed := true }
def StateShortUptoSaid : Prop := stateShortUptoRow.holds Tryz.pinned (OpenSpec.upto stateShortSpec)

/-- 'mooringslaw15.StateCut', WHERE WHAT IT READS IS OF BULK AT MOST 1048576: true; the input reads as it did. -/
def stateCutUptoRow : OpenClaim := { program := "ytipajaocggpahaagreat", sum := "2bdbdd6a84c9f01cfd27e3f3ddd1c640fdad02c8b186d847a9bf037a1cb23eec", func := "moorings/mooringslaw15.StateCut", spec := "stateCut", inPlace := ["slices.overlaps[moorings/api.Lease]", "slices.overlaps[moorings/api.Held]"], unfollowed := true, recurses := true, apart := false, narrowed := true }
def StateCutUptoSaid : Prop := stateCutUptoRow.holds Tryz.pinned (OpenSpec.upto stateCutSpec)

/-- 'mooringslaw15.StateJoins', WHERE WHAT IT READS IS OF BULK AT MOST 1048576: true; the input reads as it did. -/
def stateJoinsUptoRow : OpenClaim := { program := "ytipajaocggpahaagreat", sum := "2bdbdd6a84c9f01cfd27e3f3ddd1c640fdad02c8b186d847a9bf037a1cb23eec", func := "moorings/mooringslaw15.StateJoins", spec := "stateJoins", inPlace := ["slices.overlaps[moorings/api.Lease]", "slices.overlaps[moorings/api.Held]"], unfollowed := true, recurses := true, apart := false, narrowed := true }
def StateJoinsUptoSaid : Prop := stateJoinsUptoRow.holds Tryz.pinned (OpenSpec.upto stateJoinsSpec)

end Rows
end Go.Proofs.YtipajaocggpahaaGreat
