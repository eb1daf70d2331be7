/-
  DERIVED. GIVEN WITH THE SEED: THE CARDS: each row of YtojkjedljhjleaaGreatDoorRows.lean that lists a variable, with what it lists TIED to the program's text (the seventh form; the later family's looks); each row that meets fmt, with fmt's text TOLD by the authors' own Lean function (tested against real Go, not proved from fmt's source: count such statements apart). THE CARD IS WHAT COUNTS. Prove the row's statement (the work); the ties are given (YtojkjedljhjleaaGreatDoorTie.lean); close each card by the builder's one call (the guide's Derived/Test/ToyasCard.lean, 'card_holds'). Laid BY PROGRAM, IN A SANDBOX (cutbox-door.mjs). By AI agents, Wed Nov 11 2026. No macro, syntax, notation, axiom, sorry.
-/
import Derived.Test.YtojkjedljhjleaaGreatDoorRows
import GoSem.ClaimSeven
namespace Go.Proofs.YtojkjedljhjleaaGreatDoor
namespace Rows

/-- THE TIED CARD OF 'mooringslaw21.AuditPorts'. -/
def auditPortsCard : Claim7 := { stood := { row := auditPortsRow, standIns := [], harness := (true, "d2dc87d411760347f20ef88c68e5ab804e0ce4b48c27ef8762644fc546a2056f"), looks := false }, kinds := [], alts := [], laidByText := true, laidKinds := [.data, .data, .data, .data, .pinned], laidTests := true, laidLooks := .later }
def AuditPortsCardSaid : Prop := Claim7.holds Tryz.pinned (.plain (OpenSpec.ofChange auditPortsSpec)) auditPortsCard

/-- THE TIED CARD OF 'mooringslaw21.AuditCount'. -/
def auditCountCard : Claim7 := { stood := { row := auditCountRow, standIns := [], harness := (true, "d2dc87d411760347f20ef88c68e5ab804e0ce4b48c27ef8762644fc546a2056f"), looks := false }, kinds := [], alts := [], laidByText := true, laidKinds := [.data, .data, .data, .data, .pinned], laidTests := true, laidLooks := .later }
def AuditCountCardSaid : Prop := Claim7.holds Tryz.pinned (.plain (OpenSpec.ofChange auditCountSpec)) auditCountCard

/-- THE TIED CARD OF 'mooringslaw21.AuditLines'. -/
def auditLinesCard : Claim7 := { stood := { row := auditLinesRow, standIns := [], harness := (true, "d2dc87d411760347f20ef88c68e5ab804e0ce4b48c27ef8762644fc546a2056f"), looks := false }, kinds := [], alts := [], laidByText := true, laidKinds := [.data, .data, .data, .data, .pinned], laidTests := true, laidLooks := .later }
def AuditLinesCardSaid : Prop := Claim7.holds Tryz.pinned (.plain (OpenSpec.ofChange auditLinesSpec)) auditLinesCard

/-- THE TIED CARD OF 'mooringslaw21.AuditAll'. -/
def auditAllCard : Claim7 := { stood := { row := auditAllRow, standIns := [], harness := (true, "d2dc87d411760347f20ef88c68e5ab804e0ce4b48c27ef8762644fc546a2056f"), looks := false }, kinds := [], alts := [], laidByText := true, laidKinds := [.data, .data, .data, .data, .pinned], laidTests := true, laidLooks := .later }
def AuditAllCardSaid : Prop := Claim7.holds Tryz.pinned (.plain (OpenSpec.ofChange auditAllSpec)) auditAllCard

/-- THE SECOND FORM's CARD OF 'mooringslaw21.AuditPorts'. -/
def auditPortsUptoCard : Claim7 := { stood := { row := auditPortsUptoRow, standIns := [], harness := (true, "d2dc87d411760347f20ef88c68e5ab804e0ce4b48c27ef8762644fc546a2056f"), looks := false }, kinds := [], alts := [], laidByText := true, laidKinds := [.data, .data, .data, .data, .pinned], laidTests := true, laidLooks := .later }
def AuditPortsUptoCardSaid : Prop := Claim7.holds Tryz.pinned (.plain (OpenSpec.upto auditPortsSpec)) auditPortsUptoCard

/-- THE SECOND FORM's CARD OF 'mooringslaw21.AuditCount'. -/
def auditCountUptoCard : Claim7 := { stood := { row := auditCountUptoRow, standIns := [], harness := (true, "d2dc87d411760347f20ef88c68e5ab804e0ce4b48c27ef8762644fc546a2056f"), looks := false }, kinds := [], alts := [], laidByText := true, laidKinds := [.data, .data, .data, .data, .pinned], laidTests := true, laidLooks := .later }
def AuditCountUptoCardSaid : Prop := Claim7.holds Tryz.pinned (.plain (OpenSpec.upto auditCountSpec)) auditCountUptoCard

/-- THE SECOND FORM's CARD OF 'mooringslaw21.AuditLines'. -/
def auditLinesUptoCard : Claim7 := { stood := { row := auditLinesUptoRow, standIns := [], harness := (true, "d2dc87d411760347f20ef88c68e5ab804e0ce4b48c27ef8762644fc546a2056f"), looks := false }, kinds := [], alts := [], laidByText := true, laidKinds := [.data, .data, .data, .data, .pinned], laidTests := true, laidLooks := .later }
def AuditLinesUptoCardSaid : Prop := Claim7.holds Tryz.pinned (.plain (OpenSpec.upto auditLinesSpec)) auditLinesUptoCard

/-- THE SECOND FORM's CARD OF 'mooringslaw21.AuditAll'. -/
def auditAllUptoCard : Claim7 := { stood := { row := auditAllUptoRow, standIns := [], harness := (true, "d2dc87d411760347f20ef88c68e5ab804e0ce4b48c27ef8762644fc546a2056f"), looks := false }, kinds := [], alts := [], laidByText := true, laidKinds := [.data, .data, .data, .data, .pinned], laidTests := true, laidLooks := .later }
def AuditAllUptoCardSaid : Prop := Claim7.holds Tryz.pinned (.plain (OpenSpec.upto auditAllSpec)) auditAllUptoCard
end Rows
end Go.Proofs.YtojkjedljhjleaaGreatDoor
