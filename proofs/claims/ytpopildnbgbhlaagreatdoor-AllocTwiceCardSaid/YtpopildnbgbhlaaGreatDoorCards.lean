/-
  DERIVED. GIVEN WITH THE SEED: THE CARDS: each row of YtpopildnbgbhlaaGreatDoorRows.lean that lists a variable, with what it lists TIED to the program's text (the seventh form; the later family's looks); each row that meets fmt, with fmt's text TOLD by the authors' own Lean function (tested against real Go, not proved from fmt's source: count such statements apart). THE CARD IS WHAT COUNTS. Prove the row's statement (the work); the ties are given (YtpopildnbgbhlaaGreatDoorTie.lean); close each card by the builder's one call (the guide's Derived/Test/ToyasCard.lean, 'card_holds'). Laid BY PROGRAM, IN A SANDBOX (cutbox-door.mjs). By AI agents, Wed Nov 11 2026. No macro, syntax, notation, axiom, sorry.
-/
import Derived.Test.YtpopildnbgbhlaaGreatDoorRows
import GoSem.ClaimSeven
namespace Go.Proofs.YtpopildnbgbhlaaGreatDoor
namespace Rows

/-- THE TIED CARD OF 'mooringslaw13.AllocStays'. -/
def allocStaysCard : Claim7 := { stood := { row := allocStaysRow, standIns := [], harness := (true, "96d99a02ac9bd66bda627d488ecf0a7be2b34f7f99ed15f2f241cefc5d7db159"), looks := true }, kinds := [], alts := [], laidByText := true, laidKinds := [.data, .data], laidTests := true, laidLooks := .later }
def AllocStaysCardSaid : Prop := Claim7.holds Tryz.pinned (.plain (OpenSpec.ofChange allocStaysSpec)) allocStaysCard

/-- THE TIED CARD OF 'mooringslaw13.AllocApart'. -/
def allocApartCard : Claim7 := { stood := { row := allocApartRow, standIns := [], harness := (true, "96d99a02ac9bd66bda627d488ecf0a7be2b34f7f99ed15f2f241cefc5d7db159"), looks := true }, kinds := [], alts := [], laidByText := true, laidKinds := [.data, .data], laidTests := true, laidLooks := .later }
def AllocApartCardSaid : Prop := Claim7.holds Tryz.pinned (.plain (OpenSpec.ofChange allocApartSpec)) allocApartCard

/-- THE TIED CARD OF 'mooringslaw13.AllocQuota'. -/
def allocQuotaCard : Claim7 := { stood := { row := allocQuotaRow, standIns := [], harness := (true, "96d99a02ac9bd66bda627d488ecf0a7be2b34f7f99ed15f2f241cefc5d7db159"), looks := true }, kinds := [], alts := [], laidByText := true, laidKinds := [.data, .data], laidTests := true, laidLooks := .later }
def AllocQuotaCardSaid : Prop := Claim7.holds Tryz.pinned (.plain (OpenSpec.ofChange allocQuotaSpec)) allocQuotaCard

/-- THE TIED CARD OF 'mooringslaw13.AllocHold'. -/
def allocHoldCard : Claim7 := { stood := { row := allocHoldRow, standIns := [], harness := (true, "96d99a02ac9bd66bda627d488ecf0a7be2b34f7f99ed15f2f241cefc5d7db159"), looks := true }, kinds := [], alts := [], laidByText := true, laidKinds := [.data, .data], laidTests := true, laidLooks := .later }
def AllocHoldCardSaid : Prop := Claim7.holds Tryz.pinned (.plain (OpenSpec.ofChange allocHoldSpec)) allocHoldCard

/-- THE TIED CARD OF 'mooringslaw13.AllocTwice'. -/
def allocTwiceCard : Claim7 := { stood := { row := allocTwiceRow, standIns := [], harness := (true, "96d99a02ac9bd66bda627d488ecf0a7be2b34f7f99ed15f2f241cefc5d7db159"), looks := true }, kinds := [], alts := [], laidByText := true, laidKinds := [.data, .data], laidTests := true, laidLooks := .later }
def AllocTwiceCardSaid : Prop := Claim7.holds Tryz.pinned (.plain (OpenSpec.ofChange allocTwiceSpec)) allocTwiceCard

/-- THE TIED CARD OF 'mooringslaw13.AllocIdle'. -/
def allocIdleCard : Claim7 := { stood := { row := allocIdleRow, standIns := [], harness := (true, "96d99a02ac9bd66bda627d488ecf0a7be2b34f7f99ed15f2f241cefc5d7db159"), looks := true }, kinds := [], alts := [], laidByText := true, laidKinds := [.data, .data], laidTests := true, laidLooks := .later }
def AllocIdleCardSaid : Prop := Claim7.holds Tryz.pinned (.plain (OpenSpec.ofChange allocIdleSpec)) allocIdleCard

/-- THE TIED CARD OF 'mooringslaw13.AllocGives'. -/
def allocGivesCard : Claim7 := { stood := { row := allocGivesRow, standIns := [], harness := (true, "96d99a02ac9bd66bda627d488ecf0a7be2b34f7f99ed15f2f241cefc5d7db159"), looks := true }, kinds := [], alts := [], laidByText := true, laidKinds := [.data, .data], laidTests := true, laidLooks := .later }
def AllocGivesCardSaid : Prop := Claim7.holds Tryz.pinned (.plain (OpenSpec.ofChange allocGivesSpec)) allocGivesCard

/-- THE TIED CARD OF 'mooringslaw13.AllocReleases'. -/
def allocReleasesCard : Claim7 := { stood := { row := allocReleasesRow, standIns := [], harness := (true, "96d99a02ac9bd66bda627d488ecf0a7be2b34f7f99ed15f2f241cefc5d7db159"), looks := true }, kinds := [], alts := [], laidByText := true, laidKinds := [.data, .data], laidTests := true, laidLooks := .later }
def AllocReleasesCardSaid : Prop := Claim7.holds Tryz.pinned (.plain (OpenSpec.ofChange allocReleasesSpec)) allocReleasesCard

/-- THE SECOND FORM's CARD OF 'mooringslaw13.AllocStays'. -/
def allocStaysUptoCard : Claim7 := { stood := { row := allocStaysUptoRow, standIns := [], harness := (true, "96d99a02ac9bd66bda627d488ecf0a7be2b34f7f99ed15f2f241cefc5d7db159"), looks := true }, kinds := [], alts := [], laidByText := true, laidKinds := [.data, .data], laidTests := true, laidLooks := .later }
def AllocStaysUptoCardSaid : Prop := Claim7.holds Tryz.pinned (.plain (OpenSpec.upto allocStaysSpec)) allocStaysUptoCard

/-- THE SECOND FORM's CARD OF 'mooringslaw13.AllocApart'. -/
def allocApartUptoCard : Claim7 := { stood := { row := allocApartUptoRow, standIns := [], harness := (true, "96d99a02ac9bd66bda627d488ecf0a7be2b34f7f99ed15f2f241cefc5d7db159"), looks := true }, kinds := [], alts := [], laidByText := true, laidKinds := [.data, .data], laidTests := true, laidLooks := .later }
def AllocApartUptoCardSaid : Prop := Claim7.holds Tryz.pinned (.plain (OpenSpec.upto allocApartSpec)) allocApartUptoCard

/-- THE SECOND FORM's CARD OF 'mooringslaw13.AllocQuota'. -/
def allocQuotaUptoCard : Claim7 := { stood := { row := allocQuotaUptoRow, standIns := [], harness := (true, "96d99a02ac9bd66bda627d488ecf0a7be2b34f7f99ed15f2f241cefc5d7db159"), looks := true }, kinds := [], alts := [], laidByText := true, laidKinds := [.data, .data], laidTests := true, laidLooks := .later }
def AllocQuotaUptoCardSaid : Prop := Claim7.holds Tryz.pinned (.plain (OpenSpec.upto allocQuotaSpec)) allocQuotaUptoCard

/-- THE SECOND FORM's CARD OF 'mooringslaw13.AllocHold'. -/
def allocHoldUptoCard : Claim7 := { stood := { row := allocHoldUptoRow, standIns := [], harness := (true, "96d99a02ac9bd66bda627d488ecf0a7be2b34f7f99ed15f2f241cefc5d7db159"), looks := true }, kinds := [], alts := [], laidByText := true, laidKinds := [.data, .data], laidTests := true, laidLooks := .later }
def AllocHoldUptoCardSaid : Prop := Claim7.holds Tryz.pinned (.plain (OpenSpec.upto allocHoldSpec)) allocHoldUptoCard

/-- THE SECOND FORM's CARD OF 'mooringslaw13.AllocTwice'. -/
def allocTwiceUptoCard : Claim7 := { stood := { row := allocTwiceUptoRow, standIns := [], harness := (true, "96d99a02ac9bd66bda627d488ecf0a7be2b34f7f99ed15f2f241cefc5d7db159"), looks := true }, kinds := [], alts := [], laidByText := true, laidKinds := [.data, .data], laidTests := true, laidLooks := .later }
def AllocTwiceUptoCardSaid : Prop := Claim7.holds Tryz.pinned (.plain (OpenSpec.upto allocTwiceSpec)) allocTwiceUptoCard

/-- THE SECOND FORM's CARD OF 'mooringslaw13.AllocIdle'. -/
def allocIdleUptoCard : Claim7 := { stood := { row := allocIdleUptoRow, standIns := [], harness := (true, "96d99a02ac9bd66bda627d488ecf0a7be2b34f7f99ed15f2f241cefc5d7db159"), looks := true }, kinds := [], alts := [], laidByText := true, laidKinds := [.data, .data], laidTests := true, laidLooks := .later }
def AllocIdleUptoCardSaid : Prop := Claim7.holds Tryz.pinned (.plain (OpenSpec.upto allocIdleSpec)) allocIdleUptoCard

/-- THE SECOND FORM's CARD OF 'mooringslaw13.AllocGives'. -/
def allocGivesUptoCard : Claim7 := { stood := { row := allocGivesUptoRow, standIns := [], harness := (true, "96d99a02ac9bd66bda627d488ecf0a7be2b34f7f99ed15f2f241cefc5d7db159"), looks := true }, kinds := [], alts := [], laidByText := true, laidKinds := [.data, .data], laidTests := true, laidLooks := .later }
def AllocGivesUptoCardSaid : Prop := Claim7.holds Tryz.pinned (.plain (OpenSpec.upto allocGivesSpec)) allocGivesUptoCard

/-- THE SECOND FORM's CARD OF 'mooringslaw13.AllocReleases'. -/
def allocReleasesUptoCard : Claim7 := { stood := { row := allocReleasesUptoRow, standIns := [], harness := (true, "96d99a02ac9bd66bda627d488ecf0a7be2b34f7f99ed15f2f241cefc5d7db159"), looks := true }, kinds := [], alts := [], laidByText := true, laidKinds := [.data, .data], laidTests := true, laidLooks := .later }
def AllocReleasesUptoCardSaid : Prop := Claim7.holds Tryz.pinned (.plain (OpenSpec.upto allocReleasesSpec)) allocReleasesUptoCard
end Rows
end Go.Proofs.YtpopildnbgbhlaaGreatDoor
