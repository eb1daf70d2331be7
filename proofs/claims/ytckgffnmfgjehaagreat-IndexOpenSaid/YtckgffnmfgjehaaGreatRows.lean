/-
  No cell of these rows narrows 'for every input' (looked for: loops, veiled, ifaces, maps, wideKeys, modest, calm, conditions, laid).
  DERIVED. THE GIVEN ROWS OF THIS SEAT. 5 by the template 'for every input the law returns true; each argument reads behind the call as it read before'; 0 by the template 'total and deterministic' (their statements: YtckgffnmfgjehaaGreatTotals.lean).
  GIVEN WITH THE SEED: the statements are not yours to turn. If you find one false, say at which input.
  Laid BY PROGRAM, IN A SANDBOX (cutbox-rows.mjs): the forced cells as the released guide's own fill.sh prints them over the translation 7df2cc15a18c4656… (all of the seat's roots in one cut). By AI agents, Wed Nov 11 2026. No macro, syntax, notation, axiom, sorry.
-/
import Derived.Test.YtckgffnmfgjehaaGreatChecked
import GoSem.Claim
import GoSem.ClaimJoined
import GoSem.ClaimMapViews
import Derived.JoinedTies
import Derived.KernelRfl
namespace Go.Proofs.YtckgffnmfgjehaaGreat
/- THE CELL 'sum', in the pinned program and in every row, IS THE sha256 OF THE DUMP (.gsa) THAT YtckgffnmfgjehaaGreatProg.lean LOADS. Nothing in Lean hashes anything: it is a label: what it is worth is what the hold of that sum in a sandbox is worth. -/
noncomputable def Tryz.pinned : Pinned := { name := "ytckgffnmfgjehaagreat", sum := "7df2cc15a18c4656125fcd0008f941810924d2076b94ce49f4e43771ea958cfe", checked := Tryz.checked }
namespace Rows
def none {H : Type} : Left H := { results := [], args := [] }

/-- 'mooringslaw18.IndexBetween': WHATEVER THE INPUT: true; the input reads as it did. -/
def indexBetweenSpec : ChangeSpec := { name := "indexBetween", fn := fun _ => fun
  | [d1, d2, d3, d4] => { results := [.lit (.bool true)], args := [d1, d2, d3, d4] }
  | _ => none }
def indexBetweenRow : OpenClaim := { program := "ytckgffnmfgjehaagreat", sum := "7df2cc15a18c4656125fcd0008f941810924d2076b94ce49f4e43771ea958cfe", func := "moorings/mooringslaw18.IndexBetween", spec := "indexBetween", inPlace := ["slices.overlaps[moorings/api.File]", "slices.overlaps[moorings/api.Lease]", "slices.overlaps[moorings/api.Held]"], unfollowed := true, recurses := true, plainKeys := false, apart := false }
def IndexBetweenSaid : Prop := indexBetweenRow.holds Tryz.pinned (OpenSpec.ofChange indexBetweenSpec)

/-- ITS FALSE NEIGHBOUR: 'it returns false'. Refute it at one input. -/
def indexBetweenWrong : ChangeSpec := { name := "indexBetween", fn := fun _ => fun
  | [d1, d2, d3, d4] => { results := [.lit (.bool false)], args := [d1, d2, d3, d4] }
  | _ => none }
def IndexBetweenWrongFalsely : Prop := indexBetweenRow.holds Tryz.pinned (OpenSpec.ofChange indexBetweenWrong)

/-- 'mooringslaw18.IndexOf': WHATEVER THE INPUT: true; the input reads as it did. -/
def indexOfSpec : ChangeSpec := { name := "indexOf", fn := fun _ => fun
  | [d] => { results := [.lit (.bool true)], args := [d] }
  | _ => none }
def indexOfRow : OpenClaim := { program := "ytckgffnmfgjehaagreat", sum := "7df2cc15a18c4656125fcd0008f941810924d2076b94ce49f4e43771ea958cfe", func := "moorings/mooringslaw18.IndexOf", spec := "indexOf", inPlace := ["slices.overlaps[moorings/api.File]", "slices.overlaps[moorings/api.Lease]", "slices.overlaps[moorings/api.Held]"], unfollowed := true, recurses := true, plainKeys := false, apart := false }
def IndexOfSaid : Prop := indexOfRow.holds Tryz.pinned (OpenSpec.ofChange indexOfSpec)

/-- ITS FALSE NEIGHBOUR: 'it returns false'. Refute it at one input. -/
def indexOfWrong : ChangeSpec := { name := "indexOf", fn := fun _ => fun
  | [d] => { results := [.lit (.bool false)], args := [d] }
  | _ => none }
def IndexOfWrongFalsely : Prop := indexOfRow.holds Tryz.pinned (OpenSpec.ofChange indexOfWrong)

/-- 'mooringslaw18.IndexOwn': WHATEVER THE INPUT: true; the input reads as it did. -/
def indexOwnSpec : ChangeSpec := { name := "indexOwn", fn := fun _ => fun
  | [d1, d2, d3, d4, d5, d6] => { results := [.lit (.bool true)], args := [d1, d2, d3, d4, d5, d6] }
  | _ => none }
def indexOwnRow : OpenClaim := { program := "ytckgffnmfgjehaagreat", sum := "7df2cc15a18c4656125fcd0008f941810924d2076b94ce49f4e43771ea958cfe", func := "moorings/mooringslaw18.IndexOwn", spec := "indexOwn", inPlace := ["slices.overlaps[moorings/api.File]", "slices.overlaps[moorings/api.Lease]", "slices.overlaps[moorings/api.Held]"], unfollowed := true, recurses := true, plainKeys := false, apart := false }
def IndexOwnSaid : Prop := indexOwnRow.holds Tryz.pinned (OpenSpec.ofChange indexOwnSpec)

/-- ITS FALSE NEIGHBOUR: 'it returns false'. Refute it at one input. -/
def indexOwnWrong : ChangeSpec := { name := "indexOwn", fn := fun _ => fun
  | [d1, d2, d3, d4, d5, d6] => { results := [.lit (.bool false)], args := [d1, d2, d3, d4, d5, d6] }
  | _ => none }
def IndexOwnWrongFalsely : Prop := indexOwnRow.holds Tryz.pinned (OpenSpec.ofChange indexOwnWrong)

/-- 'mooringslaw18.IndexMore': WHATEVER THE INPUT: true; the input reads as it did. -/
def indexMoreSpec : ChangeSpec := { name := "indexMore", fn := fun _ => fun
  | [d1, d2, d3, d4, d5, d6] => { results := [.lit (.bool true)], args := [d1, d2, d3, d4, d5, d6] }
  | _ => none }
def indexMoreRow : OpenClaim := { program := "ytckgffnmfgjehaagreat", sum := "7df2cc15a18c4656125fcd0008f941810924d2076b94ce49f4e43771ea958cfe", func := "moorings/mooringslaw18.IndexMore", spec := "indexMore", inPlace := ["slices.overlaps[moorings/api.File]", "slices.overlaps[moorings/api.Lease]", "slices.overlaps[moorings/api.Held]"], unfollowed := true, recurses := true, plainKeys := false, apart := false }
def IndexMoreSaid : Prop := indexMoreRow.holds Tryz.pinned (OpenSpec.ofChange indexMoreSpec)

/-- ITS FALSE NEIGHBOUR: 'it returns false'. Refute it at one input. -/
def indexMoreWrong : ChangeSpec := { name := "indexMore", fn := fun _ => fun
  | [d1, d2, d3, d4, d5, d6] => { results := [.lit (.bool false)], args := [d1, d2, d3, d4, d5, d6] }
  | _ => none }
def IndexMoreWrongFalsely : Prop := indexMoreRow.holds Tryz.pinned (OpenSpec.ofChange indexMoreWrong)

/-- 'mooringslaw18.IndexOpen': WHATEVER THE INPUT: true; the input reads as it did. -/
def indexOpenSpec : ChangeSpec := { name := "indexOpen", fn := fun _ => fun
  | [d1, d2] => { results := [.lit (.bool true)], args := [d1, d2] }
  | _ => none }
def indexOpenRow : OpenClaim := { program := "ytckgffnmfgjehaagreat", sum := "7df2cc15a18c4656125fcd0008f941810924d2076b94ce49f4e43771ea958cfe", func := "moorings/mooringslaw18.IndexOpen", spec := "indexOpen", inPlace := ["slices.overlaps[moorings/api.File]", "slices.overlaps[moorings/api.Lease]", "slices.overlaps[moorings/api.Held]"], unfollowed := true, recurses := true, plainKeys := false, apart := false }
def IndexOpenSaid : Prop := indexOpenRow.holds Tryz.pinned (OpenSpec.ofChange indexOpenSpec)

/-- ITS FALSE NEIGHBOUR: 'it returns false'. Refute it at one input. -/
def indexOpenWrong : ChangeSpec := { name := "indexOpen", fn := fun _ => fun
  | [d1, d2] => { results := [.lit (.bool false)], args := [d1, d2] }
  | _ => none }
def IndexOpenWrongFalsely : Prop := indexOpenRow.holds Tryz.pinned (OpenSpec.ofChange indexOpenWrong)

/- THE SECOND FORM. 'bulk': how many values and letters a reading holds, each counted each time it is reached (what is shared counts as often as it is met; a slice's spare places count too). A statement '..UptoSaid' is the law's where the arguments, and the package variables that the reading takes, are together of bulk at most 1048576: NARROWER than '..Said'. Prove '..Said' where nothing that the law and all that it calls make is longer than what came in: it says more and counts as full. Else prove '..UptoSaid'. A law counts once. -/
mutual
def uptoBulk {H : Type} : DataW H → Nat
  | .lit (.string bytes) => bytes.length + 1
  | .lit _ => 1
  | .nil => 1
  | .ptr d => uptoBulk d + 1
  | .slice elems spare => uptoBulkAll elems + uptoBulkAll spare + 1
  | .agg parts => uptoBulkAll parts + 1
  | .iface _ d => uptoBulk d + 1
  | .map entries => uptoBulkEntries entries + 1
  | .held _ => 1
def uptoBulkAll {H : Type} : List (DataW H) → Nat
  | [] => 0
  | d :: r => uptoBulk d + uptoBulkAll r
def uptoBulkEntries {H : Type} : List (Lit × DataW H) → Nat
  | [] => 0
  | x :: r => uptoBulkEntry x + uptoBulkEntries r
def uptoBulkEntry {H : Type} : Lit × DataW H → Nat
  | (.string bytes, d) => bytes.length + uptoBulk d + 1
  | (_, d) => uptoBulk d + 1
 end
def uptoSmall : (H : Type) → List (DataW H) → Bool := fun _ ds => decide (uptoBulkAll ds ≤ 1048576)
def OpenSpec.upto (s : _root_.Go.ChangeSpec) : _root_.Go.OpenSpec := { _root_.Go.OpenSpec.ofChange s with cond := some uptoSmall }

/-- 'mooringslaw18.IndexBetween', WHERE WHAT IT READS IS OF BULK AT MOST 1048576: true; the input reads as it did. -/
def indexBetweenUptoRow : OpenClaim := { program := "ytckgffnmfgjehaagreat", sum := "7df2cc15a18c4656125fcd0008f941810924d2076b94ce49f4e43771ea958cfe", func := "moorings/mooringslaw18.IndexBetween", spec := "indexBetween", inPlace := ["slices.overlaps[moorings/api.File]", "slices.overlaps[moorings/api.Lease]", "slices.overlaps[moorings/api.Held]"], unfollowed := true, recurses := true, plainKeys := false, apart := false, narrowed := true }
def IndexBetweenUptoSaid : Prop := indexBetweenUptoRow.holds Tryz.pinned (OpenSpec.upto indexBetweenSpec)

/-- 'mooringslaw18.IndexOf', WHERE WHAT IT READS IS OF BULK AT MOST 1048576: true; the input reads as it did. -/
def indexOfUptoRow : OpenClaim := { program := "ytckgffnmfgjehaagreat", sum := "7df2cc15a18c4656125fcd0008f941810924d2076b94ce49f4e43771ea958cfe", func := "moorings/mooringslaw18.IndexOf", spec := "indexOf", inPlace := ["slices.overlaps[moorings/api.File]", "slices.overlaps[moorings/api.Lease]", "slices.overlaps[moorings/api.Held]"], unfollowed := true, recurses := true, plainKeys := false, apart := false, narrowed := true }
def IndexOfUptoSaid : Prop := indexOfUptoRow.holds Tryz.pinned (OpenSpec.upto indexOfSpec)

/-- 'mooringslaw18.IndexOwn', WHERE WHAT IT READS IS OF BULK AT MOST 1048576: true; the input reads as it did. -/
def indexOwnUptoRow : OpenClaim := { program := "ytckgffnmfgjehaagreat", sum := "7df2cc15a18c4656125fcd0008f941810924d2076b94ce49f4e43771ea958cfe", func := "moorings/mooringslaw18.IndexOwn", spec := "indexOwn", inPlace := ["slices.overlaps[moorings/api.File]", "slices.overlaps[moorings/api.Lease]", "slices.overlaps[moorings/api.Held]"], unfollowed := true, recurses := true, plainKeys := false, apart := false, narrowed := true }
def IndexOwnUptoSaid : Prop := indexOwnUptoRow.holds Tryz.pinned (OpenSpec.upto indexOwnSpec)

/-- 'mooringslaw18.IndexMore', WHERE WHAT IT READS IS OF BULK AT MOST 1048576: true; the input reads as it did. -/
def indexMoreUptoRow : OpenClaim := { program := "ytckgffnmfgjehaagreat", sum := "7df2cc15a18c4656125fcd0008f941810924d2076b94ce49f4e43771ea958cfe", func := "moorings/mooringslaw18.IndexMore", spec := "indexMore", inPlace := ["slices.overlaps[moorings/api.File]", "slices.overlaps[moorings/api.Lease]", "slices.overlaps[moorings/api.Held]"], unfollowed := true, recurses := true, plainKeys := false, apart := false, narrowed := true }
def IndexMoreUptoSaid : Prop := indexMoreUptoRow.holds Tryz.pinned (OpenSpec.upto indexMoreSpec)

/-- 'mooringslaw18.IndexOpen', WHERE WHAT IT READS IS OF BULK AT MOST 1048576: true; the input reads as it did. -/
def indexOpenUptoRow : OpenClaim := { program := "ytckgffnmfgjehaagreat", sum := "7df2cc15a18c4656125fcd0008f941810924d2076b94ce49f4e43771ea958cfe", func := "moorings/mooringslaw18.IndexOpen", spec := "indexOpen", inPlace := ["slices.overlaps[moorings/api.File]", "slices.overlaps[moorings/api.Lease]", "slices.overlaps[moorings/api.Held]"], unfollowed := true, recurses := true, plainKeys := false, apart := false, narrowed := true }
def IndexOpenUptoSaid : Prop := indexOpenUptoRow.holds Tryz.pinned (OpenSpec.upto indexOpenSpec)

end Rows
end Go.Proofs.YtckgffnmfgjehaaGreat
