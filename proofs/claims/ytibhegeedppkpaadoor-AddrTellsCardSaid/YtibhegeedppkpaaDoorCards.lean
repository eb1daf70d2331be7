/-
  DERIVED. GIVEN WITH THE SEED: THE CARDS: each row of YtibhegeedppkpaaDoorRows.lean that lists a variable, with what it lists TIED to the program's text (the seventh form; the later family's looks); each row that meets fmt, with fmt's text TOLD by the authors' own Lean function (tested against real Go, not proved from fmt's source: count such statements apart). THE CARD IS WHAT COUNTS. Prove the row's statement (the work); the ties are given (YtibhegeedppkpaaDoorTie.lean); close each card by the builder's one call (the guide's Derived/Test/ToyasCard.lean, 'card_holds'). Laid BY PROGRAM, IN A SANDBOX (cutbox-door.mjs). By AI agents, Wed Nov 11 2026. No macro, syntax, notation, axiom, sorry.
-/
import Derived.Test.YtibhegeedppkpaaDoorRows
import GoSem.ClaimSeven
namespace Go.Proofs.YtibhegeedppkpaaDoor
namespace Rows

/-- THE TIED CARD OF 'mooringslaw07.AddrBack'. -/
def addrBackCard : Claim7 := { stood := { row := addrBackRow, standIns := [], harness := (true, "55650ad1ba83d74b306e3023aad2512dbc285e1ae978af0adc60264d6e720d3f"), looks := false }, kinds := [], alts := [], laidByText := true, laidKinds := [.data, .data, .data, .data, .pinned], laidTests := true, laidLooks := .later }
def AddrBackCardSaid : Prop := Claim7.holds Tryd.pinned (.plain (OpenSpec.ofChange addrBackSpec)) addrBackCard

/-- THE TIED CARD OF 'mooringslaw07.AddrMeet'. -/
def addrMeetCard : Claim7 := { stood := { row := addrMeetRow, standIns := [], harness := (true, "55650ad1ba83d74b306e3023aad2512dbc285e1ae978af0adc60264d6e720d3f"), looks := false }, kinds := [], alts := [], laidByText := true, laidKinds := [.data, .data, .data, .data, .pinned], laidTests := true, laidLooks := .later }
def AddrMeetCardSaid : Prop := Claim7.holds Tryd.pinned (.plain (OpenSpec.ofChange addrMeetSpec)) addrMeetCard

/-- THE TIED CARD OF 'mooringslaw07.AddrSizes'. -/
def addrSizesCard : Claim7 := { stood := { row := addrSizesRow, standIns := [], harness := (true, "55650ad1ba83d74b306e3023aad2512dbc285e1ae978af0adc60264d6e720d3f"), looks := false }, kinds := [], alts := [], laidByText := true, laidKinds := [.data, .data, .data, .data, .pinned], laidTests := true, laidLooks := .later }
def AddrSizesCardSaid : Prop := Claim7.holds Tryd.pinned (.plain (OpenSpec.ofChange addrSizesSpec)) addrSizesCard

/-- THE TIED CARD OF 'mooringslaw07.AddrApart'. -/
def addrApartCard : Claim7 := { stood := { row := addrApartRow, standIns := [], harness := (true, "55650ad1ba83d74b306e3023aad2512dbc285e1ae978af0adc60264d6e720d3f"), looks := false }, kinds := [], alts := [], laidByText := true, laidKinds := [.data, .data, .data, .data, .pinned], laidTests := true, laidLooks := .later }
def AddrApartCardSaid : Prop := Claim7.holds Tryd.pinned (.plain (OpenSpec.ofChange addrApartSpec)) addrApartCard

/-- THE TIED CARD OF 'mooringslaw07.AddrLong'. -/
def addrLongCard : Claim7 := { stood := { row := addrLongRow, standIns := [], harness := (true, "55650ad1ba83d74b306e3023aad2512dbc285e1ae978af0adc60264d6e720d3f"), looks := false }, kinds := [], alts := [], laidByText := true, laidKinds := [.data, .data, .data, .data, .pinned], laidTests := true, laidLooks := .later }
def AddrLongCardSaid : Prop := Claim7.holds Tryd.pinned (.plain (OpenSpec.ofChange addrLongSpec)) addrLongCard

/-- THE TIED CARD OF 'mooringslaw07.AddrTells'. -/
def addrTellsCard : Claim7 := { stood := { row := addrTellsRow, standIns := [], harness := (true, "55650ad1ba83d74b306e3023aad2512dbc285e1ae978af0adc60264d6e720d3f"), looks := false }, kinds := [], alts := [], laidByText := true, laidKinds := [.data, .data, .data, .data, .pinned], laidTests := true, laidLooks := .later }
def AddrTellsCardSaid : Prop := Claim7.holds Tryd.pinned (.plain (OpenSpec.ofChange addrTellsSpec)) addrTellsCard

/-- THE TIED CARD OF 'mooringslaw07.AddrPlaces'. -/
def addrPlacesCard : Claim7 := { stood := { row := addrPlacesRow, standIns := [], harness := (true, "55650ad1ba83d74b306e3023aad2512dbc285e1ae978af0adc60264d6e720d3f"), looks := false }, kinds := [], alts := [], laidByText := true, laidKinds := [.data, .data, .data, .data, .pinned], laidTests := true, laidLooks := .later }
def AddrPlacesCardSaid : Prop := Claim7.holds Tryd.pinned (.plain (OpenSpec.ofChange addrPlacesSpec)) addrPlacesCard

/-- THE SECOND FORM's CARD OF 'mooringslaw07.AddrBack'. -/
def addrBackUptoCard : Claim7 := { stood := { row := addrBackUptoRow, standIns := [], harness := (true, "55650ad1ba83d74b306e3023aad2512dbc285e1ae978af0adc60264d6e720d3f"), looks := false }, kinds := [], alts := [], laidByText := true, laidKinds := [.data, .data, .data, .data, .pinned], laidTests := true, laidLooks := .later }
def AddrBackUptoCardSaid : Prop := Claim7.holds Tryd.pinned (.plain (OpenSpec.upto addrBackSpec)) addrBackUptoCard

/-- THE SECOND FORM's CARD OF 'mooringslaw07.AddrMeet'. -/
def addrMeetUptoCard : Claim7 := { stood := { row := addrMeetUptoRow, standIns := [], harness := (true, "55650ad1ba83d74b306e3023aad2512dbc285e1ae978af0adc60264d6e720d3f"), looks := false }, kinds := [], alts := [], laidByText := true, laidKinds := [.data, .data, .data, .data, .pinned], laidTests := true, laidLooks := .later }
def AddrMeetUptoCardSaid : Prop := Claim7.holds Tryd.pinned (.plain (OpenSpec.upto addrMeetSpec)) addrMeetUptoCard

/-- THE SECOND FORM's CARD OF 'mooringslaw07.AddrSizes'. -/
def addrSizesUptoCard : Claim7 := { stood := { row := addrSizesUptoRow, standIns := [], harness := (true, "55650ad1ba83d74b306e3023aad2512dbc285e1ae978af0adc60264d6e720d3f"), looks := false }, kinds := [], alts := [], laidByText := true, laidKinds := [.data, .data, .data, .data, .pinned], laidTests := true, laidLooks := .later }
def AddrSizesUptoCardSaid : Prop := Claim7.holds Tryd.pinned (.plain (OpenSpec.upto addrSizesSpec)) addrSizesUptoCard

/-- THE SECOND FORM's CARD OF 'mooringslaw07.AddrApart'. -/
def addrApartUptoCard : Claim7 := { stood := { row := addrApartUptoRow, standIns := [], harness := (true, "55650ad1ba83d74b306e3023aad2512dbc285e1ae978af0adc60264d6e720d3f"), looks := false }, kinds := [], alts := [], laidByText := true, laidKinds := [.data, .data, .data, .data, .pinned], laidTests := true, laidLooks := .later }
def AddrApartUptoCardSaid : Prop := Claim7.holds Tryd.pinned (.plain (OpenSpec.upto addrApartSpec)) addrApartUptoCard

/-- THE SECOND FORM's CARD OF 'mooringslaw07.AddrLong'. -/
def addrLongUptoCard : Claim7 := { stood := { row := addrLongUptoRow, standIns := [], harness := (true, "55650ad1ba83d74b306e3023aad2512dbc285e1ae978af0adc60264d6e720d3f"), looks := false }, kinds := [], alts := [], laidByText := true, laidKinds := [.data, .data, .data, .data, .pinned], laidTests := true, laidLooks := .later }
def AddrLongUptoCardSaid : Prop := Claim7.holds Tryd.pinned (.plain (OpenSpec.upto addrLongSpec)) addrLongUptoCard

/-- THE SECOND FORM's CARD OF 'mooringslaw07.AddrTells'. -/
def addrTellsUptoCard : Claim7 := { stood := { row := addrTellsUptoRow, standIns := [], harness := (true, "55650ad1ba83d74b306e3023aad2512dbc285e1ae978af0adc60264d6e720d3f"), looks := false }, kinds := [], alts := [], laidByText := true, laidKinds := [.data, .data, .data, .data, .pinned], laidTests := true, laidLooks := .later }
def AddrTellsUptoCardSaid : Prop := Claim7.holds Tryd.pinned (.plain (OpenSpec.upto addrTellsSpec)) addrTellsUptoCard

/-- THE SECOND FORM's CARD OF 'mooringslaw07.AddrPlaces'. -/
def addrPlacesUptoCard : Claim7 := { stood := { row := addrPlacesUptoRow, standIns := [], harness := (true, "55650ad1ba83d74b306e3023aad2512dbc285e1ae978af0adc60264d6e720d3f"), looks := false }, kinds := [], alts := [], laidByText := true, laidKinds := [.data, .data, .data, .data, .pinned], laidTests := true, laidLooks := .later }
def AddrPlacesUptoCardSaid : Prop := Claim7.holds Tryd.pinned (.plain (OpenSpec.upto addrPlacesSpec)) addrPlacesUptoCard
end Rows
end Go.Proofs.YtibhegeedppkpaaDoor
