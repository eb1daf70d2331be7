/-
  DERIVED. GIVEN WITH THE SEED: THE CARDS: each row of YtlhbhlngoecdcaaGreatDoorRows.lean that lists a variable, with what it lists TIED to the program's text (the seventh form; the later family's looks); each row that meets fmt, with fmt's text TOLD by the authors' own Lean function (tested against real Go, not proved from fmt's source: count such statements apart). THE CARD IS WHAT COUNTS. Prove the row's statement (the work); the ties are given (YtlhbhlngoecdcaaGreatDoorTie.lean); close each card by the builder's one call (the guide's Derived/Test/ToyasCard.lean, 'card_holds'). Laid BY PROGRAM, IN A SANDBOX (cutbox-door.mjs). By AI agents, Wed Nov 11 2026. No macro, syntax, notation, axiom, sorry.
-/
import Derived.Test.YtlhbhlngoecdcaaGreatDoorRows
import GoSem.ClaimSeven
namespace Go.Proofs.YtlhbhlngoecdcaaGreatDoor
namespace Rows

/-- THE TIED CARD OF 'mooringslaw15.StateRebuilds'. -/
def stateRebuildsCard : Claim7 := { stood := { row := stateRebuildsRow, standIns := [], harness := (true, "d913ce7a3eeef0c6502345a8716387d763ae9a82c07ca262ad3b947ca7d73a4c"), looks := true }, kinds := [], alts := [], laidByText := true, laidKinds := [.data, .data], laidTests := true, laidLooks := .later }
def StateRebuildsCardSaid : Prop := Claim7.holds Tryz.pinned (.plain (OpenSpec.ofChange stateRebuildsSpec)) stateRebuildsCard

/-- THE SECOND FORM's CARD OF 'mooringslaw15.StateRebuilds'. -/
def stateRebuildsUptoCard : Claim7 := { stood := { row := stateRebuildsUptoRow, standIns := [], harness := (true, "d913ce7a3eeef0c6502345a8716387d763ae9a82c07ca262ad3b947ca7d73a4c"), looks := true }, kinds := [], alts := [], laidByText := true, laidKinds := [.data, .data], laidTests := true, laidLooks := .later }
def StateRebuildsUptoCardSaid : Prop := Claim7.holds Tryz.pinned (.plain (OpenSpec.upto stateRebuildsSpec)) stateRebuildsUptoCard
end Rows
end Go.Proofs.YtlhbhlngoecdcaaGreatDoor
