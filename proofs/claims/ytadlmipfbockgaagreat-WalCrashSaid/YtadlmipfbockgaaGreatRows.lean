/-
  No cell of these rows narrows 'for every input' (looked for: loops, veiled, ifaces, maps, wideKeys, modest, calm, conditions, laid).
  DERIVED. THE GIVEN ROWS OF THIS SEAT. 5 by the template 'for every input the law returns true; each argument reads behind the call as it read before'; 0 by the template 'total and deterministic' (their statements: YtadlmipfbockgaaGreatTotals.lean).
  GIVEN WITH THE SEED: the statements are not yours to turn. If you find one false, say at which input.
  Laid BY PROGRAM, IN A SANDBOX (cutbox-rows.mjs): the forced cells as the released guide's own fill.sh prints them over the translation 7b3d4c9f91323fea… (all of the seat's roots in one cut). By AI agents, Wed Nov 11 2026. No macro, syntax, notation, axiom, sorry.
-/
import Derived.Test.YtadlmipfbockgaaGreatChecked
import GoSem.Claim
import GoSem.ClaimJoined
import GoSem.ClaimMapViews
import Derived.JoinedTies
import Derived.KernelRfl
namespace Go.Proofs.YtadlmipfbockgaaGreat
/- THE CELL 'sum', in the pinned program and in every row, IS THE sha256 OF THE DUMP (.gsa) THAT YtadlmipfbockgaaGreatProg.lean LOADS. Nothing in Lean hashes anything: it is a label: what it is worth is what the hold of that sum in a sandbox is worth. -/
noncomputable def Tryz.pinned : Pinned := { name := "ytadlmipfbockgaagreat", sum := "7b3d4c9f91323fea05396d5bb31f027eb3132ded205f55f24544f851af43342a", checked := Tryz.checked }
namespace Rows
def none {H : Type} : Left H := { results := [], args := [] }

/-- 'mooringslaw16.WalNew': WHATEVER THE INPUT: true; the input reads as it did. -/
def walNewSpec : ChangeSpec := { name := "walNew", fn := fun _ => fun
  | [d1, d2] => { results := [.lit (.bool true)], args := [d1, d2] }
  | _ => none }
def walNewRow : OpenClaim := { program := "ytadlmipfbockgaagreat", sum := "7b3d4c9f91323fea05396d5bb31f027eb3132ded205f55f24544f851af43342a", func := "moorings/mooringslaw16.WalNew", spec := "walNew", inPlace := ["slices.overlaps[moorings/api.File]"], unfollowed := true, recurses := true, apart := false }
def WalNewSaid : Prop := walNewRow.holds Tryz.pinned (OpenSpec.ofChange walNewSpec)

/-- ITS FALSE NEIGHBOUR: 'it returns false'. Refute it at one input. -/
def walNewWrong : ChangeSpec := { name := "walNew", fn := fun _ => fun
  | [d1, d2] => { results := [.lit (.bool false)], args := [d1, d2] }
  | _ => none }
def WalNewWrongFalsely : Prop := walNewRow.holds Tryz.pinned (OpenSpec.ofChange walNewWrong)

/-- 'mooringslaw16.WalTurns': WHATEVER THE INPUT: true; the input reads as it did. -/
def walTurnsSpec : ChangeSpec := { name := "walTurns", fn := fun _ => fun
  | [d1, d2] => { results := [.lit (.bool true)], args := [d1, d2] }
  | _ => none }
def walTurnsRow : OpenClaim := { program := "ytadlmipfbockgaagreat", sum := "7b3d4c9f91323fea05396d5bb31f027eb3132ded205f55f24544f851af43342a", func := "moorings/mooringslaw16.WalTurns", spec := "walTurns", inPlace := ["slices.overlaps[moorings/api.File]"], unfollowed := true, recurses := true, apart := false }
def WalTurnsSaid : Prop := walTurnsRow.holds Tryz.pinned (OpenSpec.ofChange walTurnsSpec)

/-- ITS FALSE NEIGHBOUR: 'it returns false'. Refute it at one input. -/
def walTurnsWrong : ChangeSpec := { name := "walTurns", fn := fun _ => fun
  | [d1, d2] => { results := [.lit (.bool false)], args := [d1, d2] }
  | _ => none }
def WalTurnsWrongFalsely : Prop := walTurnsRow.holds Tryz.pinned (OpenSpec.ofChange walTurnsWrong)

/-- 'mooringslaw16.WalTrims': WHATEVER THE INPUT: true; the input reads as it did. -/
def walTrimsSpec : ChangeSpec := { name := "walTrims", fn := fun _ => fun
  | [d1, d2, d3] => { results := [.lit (.bool true)], args := [d1, d2, d3] }
  | _ => none }
def walTrimsRow : OpenClaim := { program := "ytadlmipfbockgaagreat", sum := "7b3d4c9f91323fea05396d5bb31f027eb3132ded205f55f24544f851af43342a", func := "moorings/mooringslaw16.WalTrims", spec := "walTrims", inPlace := ["slices.overlaps[moorings/api.File]"], unfollowed := true, recurses := true, apart := false }
def WalTrimsSaid : Prop := walTrimsRow.holds Tryz.pinned (OpenSpec.ofChange walTrimsSpec)

/-- ITS FALSE NEIGHBOUR: 'it returns false'. Refute it at one input. -/
def walTrimsWrong : ChangeSpec := { name := "walTrims", fn := fun _ => fun
  | [d1, d2, d3] => { results := [.lit (.bool false)], args := [d1, d2, d3] }
  | _ => none }
def WalTrimsWrongFalsely : Prop := walTrimsRow.holds Tryz.pinned (OpenSpec.ofChange walTrimsWrong)

/-- 'mooringslaw16.WalStays': WHATEVER THE INPUT: true; the input reads as it did. -/
def walStaysSpec : ChangeSpec := { name := "walStays", fn := fun _ => fun
  | [d1, d2, d3, d4] => { results := [.lit (.bool true)], args := [d1, d2, d3, d4] }
  | _ => none }
def walStaysRow : OpenClaim := { program := "ytadlmipfbockgaagreat", sum := "7b3d4c9f91323fea05396d5bb31f027eb3132ded205f55f24544f851af43342a", func := "moorings/mooringslaw16.WalStays", spec := "walStays", inPlace := ["slices.overlaps[moorings/api.File]"], unfollowed := true, recurses := true, apart := false }
def WalStaysSaid : Prop := walStaysRow.holds Tryz.pinned (OpenSpec.ofChange walStaysSpec)

/-- ITS FALSE NEIGHBOUR: 'it returns false'. Refute it at one input. -/
def walStaysWrong : ChangeSpec := { name := "walStays", fn := fun _ => fun
  | [d1, d2, d3, d4] => { results := [.lit (.bool false)], args := [d1, d2, d3, d4] }
  | _ => none }
def WalStaysWrongFalsely : Prop := walStaysRow.holds Tryz.pinned (OpenSpec.ofChange walStaysWrong)

/-- 'mooringslaw16.WalCrash': WHATEVER THE INPUT: true; the input reads as it did. -/
def walCrashSpec : ChangeSpec := { name := "walCrash", fn := fun _ => fun
  | [d1, d2, d3] => { results := [.lit (.bool true)], args := [d1, d2, d3] }
  | _ => none }
def walCrashRow : OpenClaim := { program := "ytadlmipfbockgaagreat", sum := "7b3d4c9f91323fea05396d5bb31f027eb3132ded205f55f24544f851af43342a", func := "moorings/mooringslaw16.WalCrash", spec := "walCrash", inPlace := ["slices.overlaps[moorings/api.File]"], unfollowed := true, recurses := true, apart := false }
def WalCrashSaid : Prop := walCrashRow.holds Tryz.pinned (OpenSpec.ofChange walCrashSpec)

/-- ITS FALSE NEIGHBOUR: 'it returns false'. Refute it at one input. -/
def walCrashWrong : ChangeSpec := { name := "walCrash", fn := fun _ => fun
  | [d1, d2, d3] => { results := [.lit (.bool false)], args := [d1, d2, d3] }
  | _ => none }
def WalCrashWrongFalsely : Prop := walCrashRow.holds Tryz.pinned (OpenSpec.ofChange walCrashWrong)

/- THE SECOND FORM. 'bulk': how many values and letters a reading holds, each counted each time it is reached (what is shared counts as often as it is met; a slice's spare places count too). A statement '..UptoSaid' is the law's where the arguments, and the package variables that the reading takes, are together of bulk at most 1048576: NARROWER than '..Said'. Prove '..Said' where nothing that the law and all that it calls make is longer than what came in: it says more and counts as full. Else prove '..UptoSaid'. A law counts once. -/
mutual
def uptoBulk {H : Type} : DataW H → Nat
  | .lit (.string bytes) => bytes.length + 1
  | .lit _ => 1
  | .nil => 1
  | .ptr d => uptoBulk d + 1
  | .slice elems spare => uptoBulkAll elems + uptoBulkAll spare + 1
  | .agg parts => uptoBulkAll parts + 1
  | .iface _ d => uptoBulk d + 1
  | .map entries => uptoBulkEntries entries + 1
  | .held _ => 1
def uptoBulkAll {H : Type} : List (DataW H) → Nat
  | [] => 0
  | d :: r => uptoBulk d + uptoBulkAll r
def uptoBulkEntries {H : Type} : List (Lit × DataW H) → Nat
  | [] => 0
  | x :: r => uptoBulkEntry x + uptoBulkEntries r
def uptoBulkEntry {H : Type} : Lit × DataW H → Nat
  | (.string bytes, d) => bytes.length + uptoBulk d + 1
  | (_, d) => uptoBulk d + 1
 end
def uptoSmall : (H : Type) → List (DataW H) → Bool := fun _ ds => decide (uptoBulkAll ds ≤ 1048576)
def OpenSpec.upto (s : _root_.Go.ChangeSpec) : _root_.Go.OpenSpec := { _root_.Go.OpenSpec.ofChange s with cond := some uptoSmall }

/-- 'mooringslaw16.WalNew', WHERE WHAT IT READS IS OF BULK AT MOST 1048576: true; the input reads as it did. -/
def walNewUptoRow : OpenClaim := { program := "ytadlmipfbockgaagreat", sum := "7b3d4c9f91323fea05396d5bb31f027eb3132ded205f55f24544f851af43342a", func := "moorings/mooringslaw16.WalNew", spec := "walNew", inPlace := ["slices.overlaps[moorings/api.File]"], unfollowed := true, recurses := true, apart := false, narrowed := true }
def WalNewUptoSaid : Prop := walNewUptoRow.holds Tryz.pinned (OpenSpec.upto walNewSpec)

/-- 'mooringslaw16.WalTurns', WHERE WHAT IT READS IS OF BULK AT MOST 1048576: true; the input reads as it did. -/
def walTurnsUptoRow : OpenClaim := { program := "ytadlmipfbockgaagreat", sum := "7b3d4c9f91323fea05396d5bb31f027eb3132ded205f55f24544f851af43342a", func := "moorings/mooringslaw16.WalTurns", spec := "walTurns", inPlace := ["slices.overlaps[moorings/api.File]"], unfollowed := true, recurses := true, apart := false, narrowed := true }
def WalTurnsUptoSaid : Prop := walTurnsUptoRow.holds Tryz.pinned (OpenSpec.upto walTurnsSpec)

/-- 'mooringslaw16.WalTrims', WHERE WHAT IT READS IS OF BULK AT MOST 1048576: true; the input reads as it did. -/
def walTrimsUptoRow : OpenClaim := { program := "ytadlmipfbockgaagreat", sum := "7b3d4c9f91323fea05396d5bb31f027eb3132ded205f55f24544f851af43342a", func := "moorings/mooringslaw16.WalTrims", spec := "walTrims", inPlace := ["slices.overlaps[moorings/api.File]"], unfollowed := true, recurses := true, apart := false, narrowed := true }
def WalTrimsUptoSaid : Prop := walTrimsUptoRow.holds Tryz.pinned (OpenSpec.upto walTrimsSpec)

/-- 'mooringslaw16.WalStays', WHERE WHAT IT READS IS OF BULK AT MOST 1048576: true; the input reads as it did. -/
def walStaysUptoRow : OpenClaim := { program := "ytadlmipfbockgaagreat", sum := "7b3d4c9f91323fea05396d5bb31f027eb3132ded205f55f24544f851af43342a", func := "moorings/mooringslaw16.WalStays", spec := "walStays", inPlace := ["slices.overlaps[moorings/api.File]"], unfollowed := true, recurses := true, apart := false, narrowed := true }
def WalStaysUptoSaid : Prop := walStaysUptoRow.holds Tryz.pinned (OpenSpec.upto walStaysSpec)

/-- 'mooringslaw16.WalCrash', WHERE WHAT IT READS IS OF BULK AT MOST 1048576: true; the input reads as it did. -/
def walCrashUptoRow : OpenClaim := { program := "ytadlmipfbockgaagreat", sum := "7b3d4c9f91323fea05396d5bb31f027eb3132ded205f55f24544f851af43342a", func := "moorings/mooringslaw16.WalCrash", spec := "walCrash", inPlace := ["slices.overlaps[moorings/api.File]"], unfollowed := true, recurses := true, apart := false, narrowed := true }
def WalCrashUptoSaid : Prop := walCrashUptoRow.holds Tryz.pinned (OpenSpec.upto walCrashSpec)

end Rows
end Go.Proofs.YtadlmipfbockgaaGreat
