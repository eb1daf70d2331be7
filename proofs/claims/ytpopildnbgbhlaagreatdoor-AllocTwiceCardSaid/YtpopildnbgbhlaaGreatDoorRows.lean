/-
  NARROWER THAN 'FOR EVERY INPUT', by the rows' own cells (each row's printed sentence says how): AllocStays: laid · AllocApart: laid · AllocQuota: laid · AllocHold: laid · AllocTwice: laid · AllocIdle: laid · AllocGives: laid · AllocReleases: laid.
  DERIVED. THE GIVEN ROWS OF THIS SEAT. 8 by the template 'for every input the law returns true; each argument reads behind the call as it read before'; 0 by the template 'total and deterministic' (their statements: YtpopildnbgbhlaaGreatDoorTotals.lean).
  GIVEN WITH THE SEED: the statements are not yours to turn. If you find one false, say at which input.
  Laid BY PROGRAM, IN A SANDBOX (cutbox-rows.mjs): the forced cells as the released guide's own fill.sh prints them over the translation 55b65bceee10a28e… (all of the seat's roots in one cut). By AI agents, Wed Nov 11 2026. No macro, syntax, notation, axiom, sorry.
-/
import Derived.Test.YtpopildnbgbhlaaGreatDoorChecked
import GoSem.Claim
import GoSem.ClaimJoined
import GoSem.ClaimMapViews
import Derived.JoinedTies
import Derived.KernelRfl
namespace Go.Proofs.YtpopildnbgbhlaaGreatDoor
/- THE CELL 'sum', in the pinned program and in every row, IS THE sha256 OF THE DUMP (.gsa) THAT YtpopildnbgbhlaaGreatDoorProg.lean LOADS. Nothing in Lean hashes anything: it is a label: what it is worth is what the hold of that sum in a sandbox is worth. -/
noncomputable def Tryz.pinned : Pinned := { name := "ytpopildnbgbhlaagreatdoor", sum := "55b65bceee10a28e57dc229cbe6c43b9acd18e2d74f7cf44644820c68cf0006b", checked := Tryz.checked }
namespace Rows
def none {H : Type} : Left H := { results := [], args := [] }

/- WHAT THE LISTED PACKAGE-LEVEL VARIABLES READ AS WHEN THE CALL BEGINS. Each datum BY PROGRAM (the guide's laid-datum.mjs) off the statement by which the dump's own 'gosem.cut.vars' lays the variable. In a bare row this is a premise. The card (YtpopildnbgbhlaaGreatDoorCards.lean) ties it to the program's text. -/
def laid_math_bits_deBruijn32tab {H : Type} : DataW H := .agg [.lit (.int .u8 0), .lit (.int .u8 1), .lit (.int .u8 28), .lit (.int .u8 2), .lit (.int .u8 29), .lit (.int .u8 14), .lit (.int .u8 24), .lit (.int .u8 3), .lit (.int .u8 30), .lit (.int .u8 22), .lit (.int .u8 20), .lit (.int .u8 15), .lit (.int .u8 25), .lit (.int .u8 17), .lit (.int .u8 4), .lit (.int .u8 8), .lit (.int .u8 31), .lit (.int .u8 27), .lit (.int .u8 13), .lit (.int .u8 23), .lit (.int .u8 21), .lit (.int .u8 19), .lit (.int .u8 16), .lit (.int .u8 7), .lit (.int .u8 26), .lit (.int .u8 12), .lit (.int .u8 18), .lit (.int .u8 6), .lit (.int .u8 11), .lit (.int .u8 5), .lit (.int .u8 10), .lit (.int .u8 9)]
def laid_math_bits_deBruijn64tab {H : Type} : DataW H := .agg [.lit (.int .u8 0), .lit (.int .u8 1), .lit (.int .u8 56), .lit (.int .u8 2), .lit (.int .u8 57), .lit (.int .u8 49), .lit (.int .u8 28), .lit (.int .u8 3), .lit (.int .u8 61), .lit (.int .u8 58), .lit (.int .u8 42), .lit (.int .u8 50), .lit (.int .u8 38), .lit (.int .u8 29), .lit (.int .u8 17), .lit (.int .u8 4), .lit (.int .u8 62), .lit (.int .u8 47), .lit (.int .u8 59), .lit (.int .u8 36), .lit (.int .u8 45), .lit (.int .u8 43), .lit (.int .u8 51), .lit (.int .u8 22), .lit (.int .u8 53), .lit (.int .u8 39), .lit (.int .u8 33), .lit (.int .u8 30), .lit (.int .u8 24), .lit (.int .u8 18), .lit (.int .u8 12), .lit (.int .u8 5), .lit (.int .u8 63), .lit (.int .u8 55), .lit (.int .u8 48), .lit (.int .u8 27), .lit (.int .u8 60), .lit (.int .u8 41), .lit (.int .u8 37), .lit (.int .u8 16), .lit (.int .u8 46), .lit (.int .u8 35), .lit (.int .u8 44), .lit (.int .u8 21), .lit (.int .u8 52), .lit (.int .u8 32), .lit (.int .u8 23), .lit (.int .u8 11), .lit (.int .u8 54), .lit (.int .u8 26), .lit (.int .u8 40), .lit (.int .u8 15), .lit (.int .u8 34), .lit (.int .u8 20), .lit (.int .u8 31), .lit (.int .u8 10), .lit (.int .u8 25), .lit (.int .u8 14), .lit (.int .u8 19), .lit (.int .u8 9), .lit (.int .u8 13), .lit (.int .u8 8), .lit (.int .u8 7), .lit (.int .u8 6)]

/-- 'mooringslaw13.AllocStays': WHATEVER THE INPUT: true; the input reads as it did. -/
def allocStaysSpec : ChangeSpec := { name := "allocStays", fn := fun _ => fun
  | [d1, d2] => { results := [.lit (.bool true)], args := [d1, d2] }
  | _ => none }
def allocStaysRow : OpenClaim := { program := "ytpopildnbgbhlaagreatdoor", sum := "55b65bceee10a28e57dc229cbe6c43b9acd18e2d74f7cf44644820c68cf0006b", func := "moorings/mooringslaw13.AllocStays", spec := "allocStays", inPlace := ["slices.overlaps[moorings/api.Lease]", "slices.overlaps[moorings/api.Held]"], unfollowed := true, recurses := true, named := ["math/bits.deBruijn32tab", "math/bits.deBruijn64tab"], apart := false, laid := [("math/bits.deBruijn32tab", laid_math_bits_deBruijn32tab), ("math/bits.deBruijn64tab", laid_math_bits_deBruijn64tab)] }
def AllocStaysSaid : Prop := allocStaysRow.holds Tryz.pinned (OpenSpec.ofChange allocStaysSpec)

/-- ITS FALSE NEIGHBOUR: 'it returns false'. Refute it at one input. -/
def allocStaysWrong : ChangeSpec := { name := "allocStays", fn := fun _ => fun
  | [d1, d2] => { results := [.lit (.bool false)], args := [d1, d2] }
  | _ => none }
def AllocStaysWrongFalsely : Prop := allocStaysRow.holds Tryz.pinned (OpenSpec.ofChange allocStaysWrong)

/-- 'mooringslaw13.AllocApart': WHATEVER THE INPUT: true; the input reads as it did. -/
def allocApartSpec : ChangeSpec := { name := "allocApart", fn := fun _ => fun
  | [d1, d2, d3, d4, d5, d6] => { results := [.lit (.bool true)], args := [d1, d2, d3, d4, d5, d6] }
  | _ => none }
def allocApartRow : OpenClaim := { program := "ytpopildnbgbhlaagreatdoor", sum := "55b65bceee10a28e57dc229cbe6c43b9acd18e2d74f7cf44644820c68cf0006b", func := "moorings/mooringslaw13.AllocApart", spec := "allocApart", inPlace := ["slices.overlaps[moorings/api.Lease]", "slices.overlaps[moorings/api.Held]"], unfollowed := true, recurses := true, named := ["math/bits.deBruijn32tab", "math/bits.deBruijn64tab"], apart := false, laid := [("math/bits.deBruijn32tab", laid_math_bits_deBruijn32tab), ("math/bits.deBruijn64tab", laid_math_bits_deBruijn64tab)] }
def AllocApartSaid : Prop := allocApartRow.holds Tryz.pinned (OpenSpec.ofChange allocApartSpec)

/-- ITS FALSE NEIGHBOUR: 'it returns false'. Refute it at one input. -/
def allocApartWrong : ChangeSpec := { name := "allocApart", fn := fun _ => fun
  | [d1, d2, d3, d4, d5, d6] => { results := [.lit (.bool false)], args := [d1, d2, d3, d4, d5, d6] }
  | _ => none }
def AllocApartWrongFalsely : Prop := allocApartRow.holds Tryz.pinned (OpenSpec.ofChange allocApartWrong)

/-- 'mooringslaw13.AllocQuota': WHATEVER THE INPUT: true; the input reads as it did. -/
def allocQuotaSpec : ChangeSpec := { name := "allocQuota", fn := fun _ => fun
  | [d1, d2, d3, d4] => { results := [.lit (.bool true)], args := [d1, d2, d3, d4] }
  | _ => none }
def allocQuotaRow : OpenClaim := { program := "ytpopildnbgbhlaagreatdoor", sum := "55b65bceee10a28e57dc229cbe6c43b9acd18e2d74f7cf44644820c68cf0006b", func := "moorings/mooringslaw13.AllocQuota", spec := "allocQuota", inPlace := ["slices.overlaps[moorings/api.Lease]", "slices.overlaps[moorings/api.Held]"], unfollowed := true, recurses := true, named := ["math/bits.deBruijn32tab", "math/bits.deBruijn64tab"], apart := false, laid := [("math/bits.deBruijn32tab", laid_math_bits_deBruijn32tab), ("math/bits.deBruijn64tab", laid_math_bits_deBruijn64tab)] }
def AllocQuotaSaid : Prop := allocQuotaRow.holds Tryz.pinned (OpenSpec.ofChange allocQuotaSpec)

/-- ITS FALSE NEIGHBOUR: 'it returns false'. Refute it at one input. -/
def allocQuotaWrong : ChangeSpec := { name := "allocQuota", fn := fun _ => fun
  | [d1, d2, d3, d4] => { results := [.lit (.bool false)], args := [d1, d2, d3, d4] }
  | _ => none }
def AllocQuotaWrongFalsely : Prop := allocQuotaRow.holds Tryz.pinned (OpenSpec.ofChange allocQuotaWrong)

/-- 'mooringslaw13.AllocHold': WHATEVER THE INPUT: true; the input reads as it did. -/
def allocHoldSpec : ChangeSpec := { name := "allocHold", fn := fun _ => fun
  | [d1, d2, d3, d4, d5] => { results := [.lit (.bool true)], args := [d1, d2, d3, d4, d5] }
  | _ => none }
def allocHoldRow : OpenClaim := { program := "ytpopildnbgbhlaagreatdoor", sum := "55b65bceee10a28e57dc229cbe6c43b9acd18e2d74f7cf44644820c68cf0006b", func := "moorings/mooringslaw13.AllocHold", spec := "allocHold", inPlace := ["slices.overlaps[moorings/api.Lease]", "slices.overlaps[moorings/api.Held]"], unfollowed := true, recurses := true, named := ["math/bits.deBruijn32tab", "math/bits.deBruijn64tab"], apart := false, laid := [("math/bits.deBruijn32tab", laid_math_bits_deBruijn32tab), ("math/bits.deBruijn64tab", laid_math_bits_deBruijn64tab)] }
def AllocHoldSaid : Prop := allocHoldRow.holds Tryz.pinned (OpenSpec.ofChange allocHoldSpec)

/-- ITS FALSE NEIGHBOUR: 'it returns false'. Refute it at one input. -/
def allocHoldWrong : ChangeSpec := { name := "allocHold", fn := fun _ => fun
  | [d1, d2, d3, d4, d5] => { results := [.lit (.bool false)], args := [d1, d2, d3, d4, d5] }
  | _ => none }
def AllocHoldWrongFalsely : Prop := allocHoldRow.holds Tryz.pinned (OpenSpec.ofChange allocHoldWrong)

/-- 'mooringslaw13.AllocTwice': WHATEVER THE INPUT: true; the input reads as it did. -/
def allocTwiceSpec : ChangeSpec := { name := "allocTwice", fn := fun _ => fun
  | [d1, d2, d3] => { results := [.lit (.bool true)], args := [d1, d2, d3] }
  | _ => none }
def allocTwiceRow : OpenClaim := { program := "ytpopildnbgbhlaagreatdoor", sum := "55b65bceee10a28e57dc229cbe6c43b9acd18e2d74f7cf44644820c68cf0006b", func := "moorings/mooringslaw13.AllocTwice", spec := "allocTwice", inPlace := ["slices.overlaps[moorings/api.Lease]", "slices.overlaps[moorings/api.Held]"], unfollowed := true, recurses := true, named := ["math/bits.deBruijn32tab", "math/bits.deBruijn64tab"], apart := false, laid := [("math/bits.deBruijn32tab", laid_math_bits_deBruijn32tab), ("math/bits.deBruijn64tab", laid_math_bits_deBruijn64tab)] }
def AllocTwiceSaid : Prop := allocTwiceRow.holds Tryz.pinned (OpenSpec.ofChange allocTwiceSpec)

/-- ITS FALSE NEIGHBOUR: 'it returns false'. Refute it at one input. -/
def allocTwiceWrong : ChangeSpec := { name := "allocTwice", fn := fun _ => fun
  | [d1, d2, d3] => { results := [.lit (.bool false)], args := [d1, d2, d3] }
  | _ => none }
def AllocTwiceWrongFalsely : Prop := allocTwiceRow.holds Tryz.pinned (OpenSpec.ofChange allocTwiceWrong)

/-- 'mooringslaw13.AllocIdle': WHATEVER THE INPUT: true; the input reads as it did. -/
def allocIdleSpec : ChangeSpec := { name := "allocIdle", fn := fun _ => fun
  | [d1, d2, d3] => { results := [.lit (.bool true)], args := [d1, d2, d3] }
  | _ => none }
def allocIdleRow : OpenClaim := { program := "ytpopildnbgbhlaagreatdoor", sum := "55b65bceee10a28e57dc229cbe6c43b9acd18e2d74f7cf44644820c68cf0006b", func := "moorings/mooringslaw13.AllocIdle", spec := "allocIdle", inPlace := ["slices.overlaps[moorings/api.Lease]", "slices.overlaps[moorings/api.Held]"], unfollowed := true, recurses := true, named := ["math/bits.deBruijn32tab", "math/bits.deBruijn64tab"], apart := false, laid := [("math/bits.deBruijn32tab", laid_math_bits_deBruijn32tab), ("math/bits.deBruijn64tab", laid_math_bits_deBruijn64tab)] }
def AllocIdleSaid : Prop := allocIdleRow.holds Tryz.pinned (OpenSpec.ofChange allocIdleSpec)

/-- ITS FALSE NEIGHBOUR: 'it returns false'. Refute it at one input. -/
def allocIdleWrong : ChangeSpec := { name := "allocIdle", fn := fun _ => fun
  | [d1, d2, d3] => { results := [.lit (.bool false)], args := [d1, d2, d3] }
  | _ => none }
def AllocIdleWrongFalsely : Prop := allocIdleRow.holds Tryz.pinned (OpenSpec.ofChange allocIdleWrong)

/-- 'mooringslaw13.AllocGives': WHATEVER THE INPUT: true; the input reads as it did. -/
def allocGivesSpec : ChangeSpec := { name := "allocGives", fn := fun _ => fun
  | [d1, d2] => { results := [.lit (.bool true)], args := [d1, d2] }
  | _ => none }
def allocGivesRow : OpenClaim := { program := "ytpopildnbgbhlaagreatdoor", sum := "55b65bceee10a28e57dc229cbe6c43b9acd18e2d74f7cf44644820c68cf0006b", func := "moorings/mooringslaw13.AllocGives", spec := "allocGives", inPlace := ["slices.overlaps[moorings/api.Lease]", "slices.overlaps[moorings/api.Held]"], unfollowed := true, recurses := true, named := ["math/bits.deBruijn32tab", "math/bits.deBruijn64tab"], apart := false, laid := [("math/bits.deBruijn32tab", laid_math_bits_deBruijn32tab), ("math/bits.deBruijn64tab", laid_math_bits_deBruijn64tab)] }
def AllocGivesSaid : Prop := allocGivesRow.holds Tryz.pinned (OpenSpec.ofChange allocGivesSpec)

/-- ITS FALSE NEIGHBOUR: 'it returns false'. Refute it at one input. -/
def allocGivesWrong : ChangeSpec := { name := "allocGives", fn := fun _ => fun
  | [d1, d2] => { results := [.lit (.bool false)], args := [d1, d2] }
  | _ => none }
def AllocGivesWrongFalsely : Prop := allocGivesRow.holds Tryz.pinned (OpenSpec.ofChange allocGivesWrong)

/-- 'mooringslaw13.AllocReleases': WHATEVER THE INPUT: true; the input reads as it did. -/
def allocReleasesSpec : ChangeSpec := { name := "allocReleases", fn := fun _ => fun
  | [d1, d2] => { results := [.lit (.bool true)], args := [d1, d2] }
  | _ => none }
def allocReleasesRow : OpenClaim := { program := "ytpopildnbgbhlaagreatdoor", sum := "55b65bceee10a28e57dc229cbe6c43b9acd18e2d74f7cf44644820c68cf0006b", func := "moorings/mooringslaw13.AllocReleases", spec := "allocReleases", inPlace := ["slices.overlaps[moorings/api.Lease]", "slices.overlaps[moorings/api.Held]"], unfollowed := true, recurses := true, named := ["math/bits.deBruijn32tab", "math/bits.deBruijn64tab"], apart := false, laid := [("math/bits.deBruijn32tab", laid_math_bits_deBruijn32tab), ("math/bits.deBruijn64tab", laid_math_bits_deBruijn64tab)] }
def AllocReleasesSaid : Prop := allocReleasesRow.holds Tryz.pinned (OpenSpec.ofChange allocReleasesSpec)

/-- ITS FALSE NEIGHBOUR: 'it returns false'. Refute it at one input. -/
def allocReleasesWrong : ChangeSpec := { name := "allocReleases", fn := fun _ => fun
  | [d1, d2] => { results := [.lit (.bool false)], args := [d1, d2] }
  | _ => none }
def AllocReleasesWrongFalsely : Prop := allocReleasesRow.holds Tryz.pinned (OpenSpec.ofChange allocReleasesWrong)

/- THE SECOND FORM. 'bulk': how many values and letters a reading holds, each counted each time it is reached (what is shared counts as often as it is met; a slice's spare places count too). A statement '..UptoSaid' is the law's where the arguments, and the package variables that the reading takes, are together of bulk at most 1048576: NARROWER than '..Said'. Prove '..Said' where nothing that the law and all that it calls make is longer than what came in: it says more and counts as full. Else prove '..UptoSaid'. A law counts once. -/
mutual
def uptoBulk {H : Type} : DataW H → Nat
  | .lit (.string bytes) => bytes.length + 1
  | .lit _ => 1
  | .nil => 1
  | .ptr d => uptoBulk d + 1
  | .slice elems spare => uptoBulkAll elems + uptoBulkAll spare + 1
  | .agg parts => uptoBulkAll parts + 1
  | .iface _ d => uptoBulk d + 1
  | .map entries => uptoBulkEntries entries + 1
  | .held _ => 1
def uptoBulkAll {H : Type} : List (DataW H) → Nat
  | [] => 0
  | d :: r => uptoBulk d + uptoBulkAll r
def uptoBulkEntries {H : Type} : List (Lit × DataW H) → Nat
  | [] => 0
  | x :: r => uptoBulkEntry x + uptoBulkEntries r
def uptoBulkEntry {H : Type} : Lit × DataW H → Nat
  | (.string bytes, d) => bytes.length + uptoBulk d + 1
  | (_, d) => uptoBulk d + 1
 end
def uptoSmall : (H : Type) → List (DataW H) → Bool := fun _ ds => decide (uptoBulkAll ds ≤ 1048576)
def OpenSpec.upto (s : _root_.Go.ChangeSpec) : _root_.Go.OpenSpec := { _root_.Go.OpenSpec.ofChange s with cond := some uptoSmall }

/-- 'mooringslaw13.AllocStays', WHERE WHAT IT READS IS OF BULK AT MOST 1048576: true; the input reads as it did. -/
def allocStaysUptoRow : OpenClaim := { program := "ytpopildnbgbhlaagreatdoor", sum := "55b65bceee10a28e57dc229cbe6c43b9acd18e2d74f7cf44644820c68cf0006b", func := "moorings/mooringslaw13.AllocStays", spec := "allocStays", inPlace := ["slices.overlaps[moorings/api.Lease]", "slices.overlaps[moorings/api.Held]"], unfollowed := true, recurses := true, named := ["math/bits.deBruijn32tab", "math/bits.deBruijn64tab"], apart := false, laid := [("math/bits.deBruijn32tab", laid_math_bits_deBruijn32tab), ("math/bits.deBruijn64tab", laid_math_bits_deBruijn64tab)], narrowed := true }
def AllocStaysUptoSaid : Prop := allocStaysUptoRow.holds Tryz.pinned (OpenSpec.upto allocStaysSpec)

/-- 'mooringslaw13.AllocApart', WHERE WHAT IT READS IS OF BULK AT MOST 1048576: true; the input reads as it did. -/
def allocApartUptoRow : OpenClaim := { program := "ytpopildnbgbhlaagreatdoor", sum := "55b65bceee10a28e57dc229cbe6c43b9acd18e2d74f7cf44644820c68cf0006b", func := "moorings/mooringslaw13.AllocApart", spec := "allocApart", inPlace := ["slices.overlaps[moorings/api.Lease]", "slices.overlaps[moorings/api.Held]"], unfollowed := true, recurses := true, named := ["math/bits.deBruijn32tab", "math/bits.deBruijn64tab"], apart := false, laid := [("math/bits.deBruijn32tab", laid_math_bits_deBruijn32tab), ("math/bits.deBruijn64tab", laid_math_bits_deBruijn64tab)], narrowed := true }
def AllocApartUptoSaid : Prop := allocApartUptoRow.holds Tryz.pinned (OpenSpec.upto allocApartSpec)

/-- 'mooringslaw13.AllocQuota', WHERE WHAT IT READS IS OF BULK AT MOST 1048576: true; the input reads as it did. -/
def allocQuotaUptoRow : OpenClaim := { program := "ytpopildnbgbhlaagreatdoor", sum := "55b65bceee10a28e57dc229cbe6c43b9acd18e2d74f7cf44644820c68cf0006b", func := "moorings/mooringslaw13.AllocQuota", spec := "allocQuota", inPlace := ["slices.overlaps[moorings/api.Lease]", "slices.overlaps[moorings/api.Held]"], unfollowed := true, recurses := true, named := ["math/bits.deBruijn32tab", "math/bits.deBruijn64tab"], apart := false, laid := [("math/bits.deBruijn32tab", laid_math_bits_deBruijn32tab), ("math/bits.deBruijn64tab", laid_math_bits_deBruijn64tab)], narrowed := true }
def AllocQuotaUptoSaid : Prop := allocQuotaUptoRow.holds Tryz.pinned (OpenSpec.upto allocQuotaSpec)

/-- 'mooringslaw13.AllocHold', WHERE WHAT IT READS IS OF BULK AT MOST 1048576: true; the input reads as it did. -/
def allocHoldUptoRow : OpenClaim := { program := "ytpopildnbgbhlaagreatdoor", sum := "55b65bceee10a28e57dc229cbe6c43b9acd18e2d74f7cf44644820c68cf0006b", func := "moorings/mooringslaw13.AllocHold", spec := "allocHold", inPlace := ["slices.overlaps[moorings/api.Lease]", "slices.overlaps[moorings/api.Held]"], unfollowed := true, recurses := true, named := ["math/bits.deBruijn32tab", "math/bits.deBruijn64tab"], apart := false, laid := [("math/bits.deBruijn32tab", laid_math_bits_deBruijn32tab), ("math/bits.deBruijn64tab", laid_math_bits_deBruijn64tab)], narrowed := true }
def AllocHoldUptoSaid : Prop := allocHoldUptoRow.holds Tryz.pinned (OpenSpec.upto allocHoldSpec)

/-- 'mooringslaw13.AllocTwice', WHERE WHAT IT READS IS OF BULK AT MOST 1048576: true; the input reads as it did. -/
def allocTwiceUptoRow : OpenClaim := { program := "ytpopildnbgbhlaagreatdoor", sum := "55b65bceee10a28e57dc229cbe6c43b9acd18e2d74f7cf44644820c68cf0006b", func := "moorings/mooringslaw13.AllocTwice", spec := "allocTwice", inPlace := ["slices.overlaps[moorings/api.Lease]", "slices.overlaps[moorings/api.Held]"], unfollowed := true, recurses := true, named := ["math/bits.deBruijn32tab", "math/bits.deBruijn64tab"], apart := false, laid := [("math/bits.deBruijn32tab", laid_math_bits_deBruijn32tab), ("math/bits.deBruijn64tab", laid_math_bits_deBruijn64tab)], narrowed := true }
def AllocTwiceUptoSaid : Prop := allocTwiceUptoRow.holds Tryz.pinned (OpenSpec.upto allocTwiceSpec)

/-- 'mooringslaw13.AllocIdle', WHERE WHAT IT READS IS OF BULK AT MOST 1048576: true; the input reads as it did. -/
def allocIdleUptoRow : OpenClaim := { program := "ytpopildnbgbhlaagreatdoor", sum := "55b65bceee10a28e57dc229cbe6c43b9acd18e2d74f7cf44644820c68cf0006b", func := "moorings/mooringslaw13.AllocIdle", spec := "allocIdle", inPlace := ["slices.overlaps[moorings/api.Lease]", "slices.overlaps[moorings/api.Held]"], unfollowed := true, recurses := true, named := ["math/bits.deBruijn32tab", "math/bits.deBruijn64tab"], apart := false, laid := [("math/bits.deBruijn32tab", laid_math_bits_deBruijn32tab), ("math/bits.deBruijn64tab", laid_math_bits_deBruijn64tab)], narrowed := true }
def AllocIdleUptoSaid : Prop := allocIdleUptoRow.holds Tryz.pinned (OpenSpec.upto allocIdleSpec)

/-- 'mooringslaw13.AllocGives', WHERE WHAT IT READS IS OF BULK AT MOST 1048576: true; the input reads as it did. -/
def allocGivesUptoRow : OpenClaim := { program := "ytpopildnbgbhlaagreatdoor", sum := "55b65bceee10a28e57dc229cbe6c43b9acd18e2d74f7cf44644820c68cf0006b", func := "moorings/mooringslaw13.AllocGives", spec := "allocGives", inPlace := ["slices.overlaps[moorings/api.Lease]", "slices.overlaps[moorings/api.Held]"], unfollowed := true, recurses := true, named := ["math/bits.deBruijn32tab", "math/bits.deBruijn64tab"], apart := false, laid := [("math/bits.deBruijn32tab", laid_math_bits_deBruijn32tab), ("math/bits.deBruijn64tab", laid_math_bits_deBruijn64tab)], narrowed := true }
def AllocGivesUptoSaid : Prop := allocGivesUptoRow.holds Tryz.pinned (OpenSpec.upto allocGivesSpec)

/-- 'mooringslaw13.AllocReleases', WHERE WHAT IT READS IS OF BULK AT MOST 1048576: true; the input reads as it did. -/
def allocReleasesUptoRow : OpenClaim := { program := "ytpopildnbgbhlaagreatdoor", sum := "55b65bceee10a28e57dc229cbe6c43b9acd18e2d74f7cf44644820c68cf0006b", func := "moorings/mooringslaw13.AllocReleases", spec := "allocReleases", inPlace := ["slices.overlaps[moorings/api.Lease]", "slices.overlaps[moorings/api.Held]"], unfollowed := true, recurses := true, named := ["math/bits.deBruijn32tab", "math/bits.deBruijn64tab"], apart := false, laid := [("math/bits.deBruijn32tab", laid_math_bits_deBruijn32tab), ("math/bits.deBruijn64tab", laid_math_bits_deBruijn64tab)], narrowed := true }
def AllocReleasesUptoSaid : Prop := allocReleasesUptoRow.holds Tryz.pinned (OpenSpec.upto allocReleasesSpec)

end Rows
end Go.Proofs.YtpopildnbgbhlaaGreatDoor
