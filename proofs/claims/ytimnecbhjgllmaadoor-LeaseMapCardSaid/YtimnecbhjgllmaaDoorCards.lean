/-
  DERIVED. GIVEN WITH THE SEED: THE CARDS: each row of YtimnecbhjgllmaaDoorRows.lean that lists a variable, with what it lists TIED to the program's text (the seventh form; the later family's looks); each row that meets fmt, with fmt's text TOLD by the authors' own Lean function (tested against real Go, not proved from fmt's source: count such statements apart). THE CARD IS WHAT COUNTS. Prove the row's statement (the work); the ties are given (YtimnecbhjgllmaaDoorTie.lean); close each card by the builder's one call (the guide's Derived/Test/ToyasCard.lean, 'card_holds'). Laid BY PROGRAM, IN A SANDBOX (cutbox-door.mjs). By AI agents, Wed Nov 11 2026. No macro, syntax, notation, axiom, sorry.
-/
import Derived.Test.YtimnecbhjgllmaaDoorRows
import GoSem.ClaimSeven
namespace Go.Proofs.YtimnecbhjgllmaaDoor
namespace Rows

/-- THE TIED CARD OF 'mooringslaw12.LeaseMap'. -/
def leaseMapCard : Claim7 := { stood := { row := leaseMapRow, standIns := [], harness := (true, "e176648eba2f33e6857083a816f5e32f0ff6dad7a8a8c84c03b85e6eb2e3d893"), looks := false }, kinds := [], alts := [], laidByText := true, laidKinds := [.data, .data], laidTests := true, laidLooks := .later }
def LeaseMapCardSaid : Prop := Claim7.holds Tryd.pinned (.plain (OpenSpec.ofChange leaseMapSpec)) leaseMapCard

/-- THE SECOND FORM's CARD OF 'mooringslaw12.LeaseMap'. -/
def leaseMapUptoCard : Claim7 := { stood := { row := leaseMapUptoRow, standIns := [], harness := (true, "e176648eba2f33e6857083a816f5e32f0ff6dad7a8a8c84c03b85e6eb2e3d893"), looks := false }, kinds := [], alts := [], laidByText := true, laidKinds := [.data, .data], laidTests := true, laidLooks := .later }
def LeaseMapUptoCardSaid : Prop := Claim7.holds Tryd.pinned (.plain (OpenSpec.upto leaseMapSpec)) leaseMapUptoCard
end Rows
end Go.Proofs.YtimnecbhjgllmaaDoor
