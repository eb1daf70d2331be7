/-
  No cell of these rows narrows 'for every input' (looked for: loops, veiled, ifaces, maps, wideKeys, modest, calm, conditions, laid).
  DERIVED. THE GIVEN ROWS OF THIS SEAT. 4 by the template 'for every input the law returns true; each argument reads behind the call as it read before'; 0 by the template 'total and deterministic' (their statements: YtjkplgcpgpicnaaGreatTotals.lean).
  GIVEN WITH THE SEED: the statements are not yours to turn. If you find one false, say at which input.
  Laid BY PROGRAM, IN A SANDBOX (cutbox-rows.mjs): the forced cells as the released guide's own fill.sh prints them over the translation 5b90f90d5ad88c98… (all of the seat's roots in one cut). By AI agents, Wed Nov 11 2026. No macro, syntax, notation, axiom, sorry.
-/
import Derived.Test.YtjkplgcpgpicnaaGreatChecked
import GoSem.Claim
import GoSem.ClaimJoined
import GoSem.ClaimMapViews
import Derived.JoinedTies
import Derived.KernelRfl
namespace Go.Proofs.YtjkplgcpgpicnaaGreat
/- THE CELL 'sum', in the pinned program and in every row, IS THE sha256 OF THE DUMP (.gsa) THAT YtjkplgcpgpicnaaGreatProg.lean LOADS. Nothing in Lean hashes anything: it is a label: what it is worth is what the hold of that sum in a sandbox is worth. -/
noncomputable def Tryz.pinned : Pinned := { name := "ytjkplgcpgpicnaagreat", sum := "5b90f90d5ad88c98faf251da21af3b7e677b4c49834b39948e8a38ccd1f67415", checked := Tryz.checked }
namespace Rows
def none {H : Type} : Left H := { results := [], args := [] }

/-- 'mooringslaw17.RecoverTwice': WHATEVER THE INPUT: true; the input reads as it did. -/
def recoverTwiceSpec : ChangeSpec := { name := "recoverTwice", fn := fun _ => fun
  | [d] => { results := [.lit (.bool true)], args := [d] }
  | _ => none }
def recoverTwiceRow : OpenClaim := { program := "ytjkplgcpgpicnaagreat", sum := "5b90f90d5ad88c98faf251da21af3b7e677b4c49834b39948e8a38ccd1f67415", func := "moorings/mooringslaw17.RecoverTwice", spec := "recoverTwice", inPlace := ["slices.overlaps[moorings/api.File]", "slices.overlaps[moorings/api.Lease]", "slices.overlaps[moorings/api.Held]"], unfollowed := true, recurses := true, apart := false }
def RecoverTwiceSaid : Prop := recoverTwiceRow.holds Tryz.pinned (OpenSpec.ofChange recoverTwiceSpec)

/-- ITS FALSE NEIGHBOUR: 'it returns false'. Refute it at one input. -/
def recoverTwiceWrong : ChangeSpec := { name := "recoverTwice", fn := fun _ => fun
  | [d] => { results := [.lit (.bool false)], args := [d] }
  | _ => none }
def RecoverTwiceWrongFalsely : Prop := recoverTwiceRow.holds Tryz.pinned (OpenSpec.ofChange recoverTwiceWrong)

/-- 'mooringslaw17.RecoverLast': WHATEVER THE INPUT: true; the input reads as it did. -/
def recoverLastSpec : ChangeSpec := { name := "recoverLast", fn := fun _ => fun
  | [d] => { results := [.lit (.bool true)], args := [d] }
  | _ => none }
def recoverLastRow : OpenClaim := { program := "ytjkplgcpgpicnaagreat", sum := "5b90f90d5ad88c98faf251da21af3b7e677b4c49834b39948e8a38ccd1f67415", func := "moorings/mooringslaw17.RecoverLast", spec := "recoverLast", inPlace := ["slices.overlaps[moorings/api.File]", "slices.overlaps[moorings/api.Lease]", "slices.overlaps[moorings/api.Held]"], unfollowed := true, recurses := true, apart := false }
def RecoverLastSaid : Prop := recoverLastRow.holds Tryz.pinned (OpenSpec.ofChange recoverLastSpec)

/-- ITS FALSE NEIGHBOUR: 'it returns false'. Refute it at one input. -/
def recoverLastWrong : ChangeSpec := { name := "recoverLast", fn := fun _ => fun
  | [d] => { results := [.lit (.bool false)], args := [d] }
  | _ => none }
def RecoverLastWrongFalsely : Prop := recoverLastRow.holds Tryz.pinned (OpenSpec.ofChange recoverLastWrong)

/-- 'mooringslaw17.RecoverFinds': WHATEVER THE INPUT: true; the input reads as it did. -/
def recoverFindsSpec : ChangeSpec := { name := "recoverFinds", fn := fun _ => fun
  | [d1, d2] => { results := [.lit (.bool true)], args := [d1, d2] }
  | _ => none }
def recoverFindsRow : OpenClaim := { program := "ytjkplgcpgpicnaagreat", sum := "5b90f90d5ad88c98faf251da21af3b7e677b4c49834b39948e8a38ccd1f67415", func := "moorings/mooringslaw17.RecoverFinds", spec := "recoverFinds", inPlace := ["slices.overlaps[moorings/api.File]", "slices.overlaps[moorings/api.Lease]", "slices.overlaps[moorings/api.Held]"], unfollowed := true, recurses := true, apart := false }
def RecoverFindsSaid : Prop := recoverFindsRow.holds Tryz.pinned (OpenSpec.ofChange recoverFindsSpec)

/-- ITS FALSE NEIGHBOUR: 'it returns false'. Refute it at one input. -/
def recoverFindsWrong : ChangeSpec := { name := "recoverFinds", fn := fun _ => fun
  | [d1, d2] => { results := [.lit (.bool false)], args := [d1, d2] }
  | _ => none }
def RecoverFindsWrongFalsely : Prop := recoverFindsRow.holds Tryz.pinned (OpenSpec.ofChange recoverFindsWrong)

/-- 'mooringslaw17.RecoverTorn': WHATEVER THE INPUT: true; the input reads as it did. -/
def recoverTornSpec : ChangeSpec := { name := "recoverTorn", fn := fun _ => fun
  | [d1, d2] => { results := [.lit (.bool true)], args := [d1, d2] }
  | _ => none }
def recoverTornRow : OpenClaim := { program := "ytjkplgcpgpicnaagreat", sum := "5b90f90d5ad88c98faf251da21af3b7e677b4c49834b39948e8a38ccd1f67415", func := "moorings/mooringslaw17.RecoverTorn", spec := "recoverTorn", inPlace := ["slices.overlaps[moorings/api.File]", "slices.overlaps[moorings/api.Lease]", "slices.overlaps[moorings/api.Held]"], unfollowed := true, recurses := true, apart := false }
def RecoverTornSaid : Prop := recoverTornRow.holds Tryz.pinned (OpenSpec.ofChange recoverTornSpec)

/-- ITS FALSE NEIGHBOUR: 'it returns false'. Refute it at one input. -/
def recoverTornWrong : ChangeSpec := { name := "recoverTorn", fn := fun _ => fun
  | [d1, d2] => { results := [.lit (.bool false)], args := [d1, d2] }
  | _ => none }
def RecoverTornWrongFalsely : Prop := recoverTornRow.holds Tryz.pinned (OpenSpec.ofChange recoverTornWrong)

/- THE SECOND FORM. 'bulk': how many values and letters a reading holds, each counted each time it is reached (what is shared counts as often as it is met; a slice's spare places count too). A statement '..UptoSaid' is the law's where the arguments, and the package variables that the reading takes, are together of bulk at most 1048576: NARROWER than '..Said'. Prove '..Said' where nothing that the law and all that it calls make is longer than what came in: it says more and counts as full. Else prove '..UptoSaid'. A law counts once. -/
mutual
def uptoBulk {H : Type} : DataW H → Nat
  | .lit (.string bytes) => bytes.length + 1
  | .lit _ => 1
  | .nil => 1
  | .ptr d => uptoBulk d + 1
  | .slice elems spare => uptoBulkAll elems + uptoBulkAll spare + 1
  | .agg parts => uptoBulkAll parts + 1
  | .iface _ d => uptoBulk d + 1
  | .map entries => uptoBulkEntries entries + 1
  | .held _ => 1
def uptoBulkAll {H : Type} : List (DataW H) → Nat
  | [] => 0
  | d :: r => uptoBulk d + uptoBulkAll r
def uptoBulkEntries {H : Type} : List (Lit × DataW H) → Nat
  | [] => 0
  | x :: r => uptoBulkEntry x + uptoBulkEntries r
def uptoBulkEntry {H : Type} : Lit × DataW H → Nat
  | (.string bytes, d) => bytes.length + uptoBulk d + 1
  | (_, d) => uptoBulk d + 1
 end
def uptoSmall : (H : Type) → List (DataW H) → Bool := fun _ ds => decide (uptoBulkAll ds ≤ 1048576)
def OpenSpec.upto (s : _root_.Go.ChangeSpec) : _root_.Go.OpenSpec := { _root_.Go.OpenSpec.ofChange s with cond := some uptoSmall }

/-- 'mooringslaw17.RecoverTwice', WHERE WHAT IT READS IS OF BULK AT MOST 1048576: true; the input reads as it did. -/
def recoverTwiceUptoRow : OpenClaim := { program := "ytjkplgcpgpicnaagreat", sum := "5b90f90d5ad88c98faf251da21af3b7e677b4c49834b39948e8a38ccd1f67415", func := "moorings/mooringslaw17.RecoverTwice", spec := "recoverTwice", inPlace := ["slices.overlaps[moorings/api.File]", "slices.overlaps[moorings/api.Lease]", "slices.overlaps[moorings/api.Held]"], unfollowed := true, recurses := true, apart := false, narrowed := true }
def RecoverTwiceUptoSaid : Prop := recoverTwiceUptoRow.holds Tryz.pinned (OpenSpec.upto recoverTwiceSpec)

/-- 'mooringslaw17.RecoverLast', WHERE WHAT IT READS IS OF BULK AT MOST 1048576: true; the input reads as it did. -/
def recoverLastUptoRow : OpenClaim := { program := "ytjkplgcpgpicnaagreat", sum := "5b90f90d5ad88c98faf251da21af3b7e677b4c49834b39948e8a38ccd1f67415", func := "moorings/mooringslaw17.RecoverLast", spec := "recoverLast", inPlace := ["slices.overlaps[moorings/api.File]", "slices.overlaps[moorings/api.Lease]", "slices.overlaps[moorings/api.Held]"], unfollowed := true, recurses := true, apart := false, narrowed := true }
def RecoverLastUptoSaid : Prop := recoverLastUptoRow.holds Tryz.pinned (OpenSpec.upto recoverLastSpec)

/-- 'mooringslaw17.RecoverFinds', WHERE WHAT IT READS IS OF BULK AT MOST 1048576: true; the input reads as it did. -/
def recoverFindsUptoRow : OpenClaim := { program := "ytjkplgcpgpicnaagreat", sum := "5b90f90d5ad88c98faf251da21af3b7e677b4c49834b39948e8a38ccd1f67415", func := "moorings/mooringslaw17.RecoverFinds", spec := "recoverFinds", inPlace := ["slices.overlaps[moorings/api.File]", "slices.overlaps[moorings/api.Lease]", "slices.overlaps[moorings/api.Held]"], unfollowed := true, recurses := true, apart := false, narrowed := true }
def RecoverFindsUptoSaid : Prop := recoverFindsUptoRow.holds Tryz.pinned (OpenSpec.upto recoverFindsSpec)

/-- 'mooringslaw17.RecoverTorn', WHERE WHAT IT READS IS OF BULK AT MOST 1048576: true; the input reads as it did. -/
def recoverTornUptoRow : OpenClaim := { program := "ytjkplgcpgpicnaagreat", sum := "5b90f90d5ad88c98faf251da21af3b7e677b4c49834b39948e8a38ccd1f67415", func := "moorings/mooringslaw17.RecoverTorn", spec := "recoverTorn", inPlace := ["slices.overlaps[moorings/api.File]", "slices.overlaps[moorings/api.Lease]", "slices.overlaps[moorings/api.Held]"], unfollowed := true, recurses := true, apart := false, narrowed := true }
def RecoverTornUptoSaid : Prop := recoverTornUptoRow.holds Tryz.pinned (OpenSpec.upto recoverTornSpec)

end Rows
end Go.Proofs.YtjkplgcpgpicnaaGreat
