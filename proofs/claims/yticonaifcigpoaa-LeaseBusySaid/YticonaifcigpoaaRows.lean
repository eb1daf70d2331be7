/-
  No cell of these rows narrows 'for every input' (looked for: loops, veiled, ifaces, maps, wideKeys, modest, calm, conditions, laid).
  DERIVED. THE GIVEN ROWS OF THIS SEAT. 4 by the template 'for every input the law returns true; each argument reads behind the call as it read before'; 0 by the template 'total and deterministic' (their statements: YticonaifcigpoaaTotals.lean).
  GIVEN WITH THE SEED: the statements are not yours to turn. If you find one false, say at which input.
  Laid BY PROGRAM, IN A SANDBOX (cutbox-rows.mjs): the forced cells as the released guide's own fill.sh prints them over the translation 145b8d53740f1f6c… (all of the seat's roots in one cut). By AI agents, Wed Nov 11 2026. No macro, syntax, notation, axiom, sorry.
-/
import Derived.Test.YticonaifcigpoaaChecked
import GoSem.Claim
import GoSem.ClaimJoined
import GoSem.ClaimMapViews
import Derived.JoinedTies
import Derived.KernelRfl
namespace Go.Proofs.Yticonaifcigpoaa
/- THE CELL 'sum', in the pinned program and in every row, IS THE sha256 OF THE DUMP (.gsa) THAT YticonaifcigpoaaProg.lean LOADS. Nothing in Lean hashes anything: it is a label: what it is worth is what the hold of that sum in a sandbox is worth. -/
noncomputable def Try.pinned : Pinned := { name := "yticonaifcigpoaa", sum := "145b8d53740f1f6c2b6cd0fd85cce58575aa2f7af02c17001d56fa31244e0ffb", checked := Try.checked }
namespace Rows
def none {H : Type} : Left H := { results := [], args := [] }

/-- 'mooringslaw12.LeaseSame': WHATEVER THE INPUT: true; the input reads as it did. -/
def leaseSameSpec : ChangeSpec := { name := "leaseSame", fn := fun _ => fun
  | [d1, d2, d3, d4] => { results := [.lit (.bool true)], args := [d1, d2, d3, d4] }
  | _ => none }
def leaseSameRow : OpenClaim := { program := "yticonaifcigpoaa", sum := "145b8d53740f1f6c2b6cd0fd85cce58575aa2f7af02c17001d56fa31244e0ffb", func := "moorings/mooringslaw12.LeaseSame", spec := "leaseSame", inPlace := ["slices.overlaps[moorings/api.Lease]", "slices.overlaps[moorings/api.Held]"], unfollowed := true, recurses := true, apart := false }
def LeaseSameSaid : Prop := leaseSameRow.holds Try.pinned (OpenSpec.ofChange leaseSameSpec)

/-- ITS FALSE NEIGHBOUR: 'it returns false'. Refute it at one input. -/
def leaseSameWrong : ChangeSpec := { name := "leaseSame", fn := fun _ => fun
  | [d1, d2, d3, d4] => { results := [.lit (.bool false)], args := [d1, d2, d3, d4] }
  | _ => none }
def LeaseSameWrongFalsely : Prop := leaseSameRow.holds Try.pinned (OpenSpec.ofChange leaseSameWrong)

/-- 'mooringslaw12.LeaseBusy': WHATEVER THE INPUT: true; the input reads as it did. -/
def leaseBusySpec : ChangeSpec := { name := "leaseBusy", fn := fun _ => fun
  | [d1, d2] => { results := [.lit (.bool true)], args := [d1, d2] }
  | _ => none }
def leaseBusyRow : OpenClaim := { program := "yticonaifcigpoaa", sum := "145b8d53740f1f6c2b6cd0fd85cce58575aa2f7af02c17001d56fa31244e0ffb", func := "moorings/mooringslaw12.LeaseBusy", spec := "leaseBusy", inPlace := ["slices.overlaps[moorings/api.Lease]", "slices.overlaps[moorings/api.Held]"], unfollowed := true, recurses := true, apart := false }
def LeaseBusySaid : Prop := leaseBusyRow.holds Try.pinned (OpenSpec.ofChange leaseBusySpec)

/-- ITS FALSE NEIGHBOUR: 'it returns false'. Refute it at one input. -/
def leaseBusyWrong : ChangeSpec := { name := "leaseBusy", fn := fun _ => fun
  | [d1, d2] => { results := [.lit (.bool false)], args := [d1, d2] }
  | _ => none }
def LeaseBusyWrongFalsely : Prop := leaseBusyRow.holds Try.pinned (OpenSpec.ofChange leaseBusyWrong)

/-- 'mooringslaw12.LeaseOrder': WHATEVER THE INPUT: true; the input reads as it did. -/
def leaseOrderSpec : ChangeSpec := { name := "leaseOrder", fn := fun _ => fun
  | [d1, d2, d3] => { results := [.lit (.bool true)], args := [d1, d2, d3] }
  | _ => none }
def leaseOrderRow : OpenClaim := { program := "yticonaifcigpoaa", sum := "145b8d53740f1f6c2b6cd0fd85cce58575aa2f7af02c17001d56fa31244e0ffb", func := "moorings/mooringslaw12.LeaseOrder", spec := "leaseOrder", inPlace := ["slices.overlaps[moorings/api.Lease]", "slices.overlaps[moorings/api.Held]"], unfollowed := true, recurses := true, apart := false }
def LeaseOrderSaid : Prop := leaseOrderRow.holds Try.pinned (OpenSpec.ofChange leaseOrderSpec)

/-- ITS FALSE NEIGHBOUR: 'it returns false'. Refute it at one input. -/
def leaseOrderWrong : ChangeSpec := { name := "leaseOrder", fn := fun _ => fun
  | [d1, d2, d3] => { results := [.lit (.bool false)], args := [d1, d2, d3] }
  | _ => none }
def LeaseOrderWrongFalsely : Prop := leaseOrderRow.holds Try.pinned (OpenSpec.ofChange leaseOrderWrong)

/-- 'mooringslaw12.LeaseBack': WHATEVER THE INPUT: true; the input reads as it did. -/
def leaseBackSpec : ChangeSpec := { name := "leaseBack", fn := fun _ => fun
  | [d1, d2] => { results := [.lit (.bool true)], args := [d1, d2] }
  | _ => none }
def leaseBackRow : OpenClaim := { program := "yticonaifcigpoaa", sum := "145b8d53740f1f6c2b6cd0fd85cce58575aa2f7af02c17001d56fa31244e0ffb", func := "moorings/mooringslaw12.LeaseBack", spec := "leaseBack", inPlace := ["slices.overlaps[moorings/api.Lease]", "slices.overlaps[moorings/api.Held]"], unfollowed := true, recurses := true, apart := false }
def LeaseBackSaid : Prop := leaseBackRow.holds Try.pinned (OpenSpec.ofChange leaseBackSpec)

/-- ITS FALSE NEIGHBOUR: 'it returns false'. Refute it at one input. -/
def leaseBackWrong : ChangeSpec := { name := "leaseBack", fn := fun _ => fun
  | [d1, d2] => { results := [.lit (.bool false)], args := [d1, d2] }
  | _ => none }
def LeaseBackWrongFalsely : Prop := leaseBackRow.holds Try.pinned (OpenSpec.ofChange leaseBackWrong)

/- THE SECOND FORM. 'bulk': how many values and letters a reading holds, each counted each time it is reached (what is shared counts as often as it is met; a slice's spare places count too). A statement '..UptoSaid' is the law's where the arguments, and the package variables that the reading takes, are together of bulk at most 1048576: NARROWER than '..Said'. Prove '..Said' where nothing that the law and all that it calls make is longer than what came in: it says more and counts as full. Else prove '..UptoSaid'. A law counts once. -/
mutual
def uptoBulk {H : Type} : DataW H → Nat
  | .lit (.string bytes) => bytes.length + 1
  | .lit _ => 1
  | .nil => 1
  | .ptr d => uptoBulk d + 1
  | .slice elems spare => uptoBulkAll elems + uptoBulkAll spare + 1
  | .agg parts => uptoBulkAll parts + 1
  | .iface _ d => uptoBulk d + 1
  | .map entries => uptoBulkEntries entries + 1
  | .held _ => 1
def uptoBulkAll {H : Type} : List (DataW H) → Nat
  | [] => 0
  | d :: r => uptoBulk d + uptoBulkAll r
def uptoBulkEntries {H : Type} : List (Lit × DataW H) → Nat
  | [] => 0
  | x :: r => uptoBulkEntry x + uptoBulkEntries r
def uptoBulkEntry {H : Type} : Lit × DataW H → Nat
  | (.string bytes, d) => bytes.length + uptoBulk d + 1
  | (_, d) => uptoBulk d + 1
 end
def uptoSmall : (H : Type) → List (DataW H) → Bool := fun _ ds => decide (uptoBulkAll ds ≤ 1048576)
def OpenSpec.upto (s : _root_.Go.ChangeSpec) : _root_.Go.OpenSpec := { _root_.Go.OpenSpec.ofChange s with cond := some uptoSmall }

/-- 'mooringslaw12.LeaseSame', WHERE WHAT IT READS IS OF BULK AT MOST 1048576: true; the input reads as it did. -/
def leaseSameUptoRow : OpenClaim := { program := "yticonaifcigpoaa", sum := "145b8d53740f1f6c2b6cd0fd85cce58575aa2f7af02c17001d56fa31244e0ffb", func := "moorings/mooringslaw12.LeaseSame", spec := "leaseSame", inPlace := ["slices.overlaps[moorings/api.Lease]", "slices.overlaps[moorings/api.Held]"], unfollowed := true, recurses := true, apart := false, narrowed := true }
def LeaseSameUptoSaid : Prop := leaseSameUptoRow.holds Try.pinned (OpenSpec.upto leaseSameSpec)

/-- 'mooringslaw12.LeaseBusy', WHERE WHAT IT READS IS OF BULK AT MOST 1048576: true; the input reads as it did. -/
def leaseBusyUptoRow : OpenClaim := { program := "yticonaifcigpoaa", sum := "145b8d53740f1f6c2b6cd0fd85cce58575aa2f7af02c17001d56fa31244e0ffb", func := "moorings/mooringslaw12.LeaseBusy", spec := "leaseBusy", inPlace := ["slices.overlaps[moorings/api.Lease]", "slices.overlaps[moorings/api.Held]"], unfollowed := true, recurses := true, apart := false, narrowed := true }
def LeaseBusyUptoSaid : Prop := leaseBusyUptoRow.holds Try.pinned (OpenSpec.upto leaseBusySpec)

/-- 'mooringslaw12.LeaseOrder', WHERE WHAT IT READS IS OF BULK AT MOST 1048576: true; the input reads as it did. -/
def leaseOrderUptoRow : OpenClaim := { program := "yticonaifcigpoaa", sum := "145b8d53740f1f6c2b6cd0fd85cce58575aa2f7af02c17001d56fa31244e0ffb", func := "moorings/mooringslaw12.LeaseOrder", spec := "leaseOrder", inPlace := ["slices.overlaps[moorings/api.Lease]", "slices.overlaps[moorings/api.Held]"], unfollowed := true, recurses := true, apart := false, narrowed := true }
def LeaseOrderUptoSaid : Prop := leaseOrderUptoRow.holds Try.pinned (OpenSpec.upto leaseOrderSpec)

/-- 'mooringslaw12.LeaseBack', WHERE WHAT IT READS IS OF BULK AT MOST 1048576: true; the input reads as it did. -/
def leaseBackUptoRow : OpenClaim := { program := "yticonaifcigpoaa", sum := "145b8d53740f1f6c2b6cd0fd85cce58575aa2f7af02c17001d56fa31244e0ffb", func := "moorings/mooringslaw12.LeaseBack", spec := "leaseBack", inPlace := ["slices.overlaps[moorings/api.Lease]", "slices.overlaps[moorings/api.Held]"], unfollowed := true, recurses := true, apart := false, narrowed := true }
def LeaseBackUptoSaid : Prop := leaseBackUptoRow.holds Try.pinned (OpenSpec.upto leaseBackSpec)

end Rows
end Go.Proofs.Yticonaifcigpoaa
