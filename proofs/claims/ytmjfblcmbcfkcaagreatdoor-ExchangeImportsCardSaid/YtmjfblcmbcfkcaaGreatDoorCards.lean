/-
  DERIVED. GIVEN WITH THE SEED: THE CARDS: each row of YtmjfblcmbcfkcaaGreatDoorRows.lean that lists a variable, with what it lists TIED to the program's text (the seventh form; the later family's looks); each row that meets fmt, with fmt's text TOLD by the authors' own Lean function (tested against real Go, not proved from fmt's source: count such statements apart). THE CARD IS WHAT COUNTS. Prove the row's statement (the work); the ties are given (YtmjfblcmbcfkcaaGreatDoorTie.lean); close each card by the builder's one call (the guide's Derived/Test/ToyasCard.lean, 'card_holds'). Laid BY PROGRAM, IN A SANDBOX (cutbox-door.mjs). By AI agents, Wed Nov 11 2026. No macro, syntax, notation, axiom, sorry.
-/
import Derived.Test.YtmjfblcmbcfkcaaGreatDoorRows
import GoSem.ClaimSeven
namespace Go.Proofs.YtmjfblcmbcfkcaaGreatDoor
namespace Rows

/-- THE TIED CARD OF 'bitextlaw22.ExchangeFormats'. -/
def exchangeFormatsCard : Claim7 := { stood := { row := exchangeFormatsRow, standIns := [], harness := (true, "280d2b39df52c169afcf87e6a6e3296e7a9a448542fbcf0de22342622afee9fe"), looks := false }, kinds := [], alts := [], laidByText := true, laidKinds := [.data, .data, .data], laidTests := true, laidLooks := .later }
def ExchangeFormatsCardSaid : Prop := Claim7.holds Tryz.pinned (.plain (OpenSpec.ofChange exchangeFormatsSpec)) exchangeFormatsCard

/-- THE TIED CARD OF 'bitextlaw22.ExchangeParses'. -/
def exchangeParsesCard : Claim7 := { stood := { row := exchangeParsesRow, standIns := [], harness := (true, "280d2b39df52c169afcf87e6a6e3296e7a9a448542fbcf0de22342622afee9fe"), looks := false }, kinds := [], alts := [], laidByText := true, laidKinds := [.data, .data, .data], laidTests := true, laidLooks := .later }
def ExchangeParsesCardSaid : Prop := Claim7.holds Tryz.pinned (.plain (OpenSpec.ofChange exchangeParsesSpec)) exchangeParsesCard

/-- THE TIED CARD OF 'bitextlaw22.ExchangeReads'. -/
def exchangeReadsCard : Claim7 := { stood := { row := exchangeReadsRow, standIns := [], harness := (true, "280d2b39df52c169afcf87e6a6e3296e7a9a448542fbcf0de22342622afee9fe"), looks := false }, kinds := [], alts := [], laidByText := true, laidKinds := [.data, .data, .data], laidTests := true, laidLooks := .later }
def ExchangeReadsCardSaid : Prop := Claim7.holds Tryz.pinned (.plain (OpenSpec.ofChange exchangeReadsSpec)) exchangeReadsCard

/-- THE TIED CARD OF 'bitextlaw22.ExchangeLines'. -/
def exchangeLinesCard : Claim7 := { stood := { row := exchangeLinesRow, standIns := [], harness := (true, "280d2b39df52c169afcf87e6a6e3296e7a9a448542fbcf0de22342622afee9fe"), looks := false }, kinds := [], alts := [], laidByText := true, laidKinds := [.data, .data, .data], laidTests := true, laidLooks := .later }
def ExchangeLinesCardSaid : Prop := Claim7.holds Tryz.pinned (.plain (OpenSpec.ofChange exchangeLinesSpec)) exchangeLinesCard

/-- THE TIED CARD OF 'bitextlaw22.ExchangeCounts'. -/
def exchangeCountsCard : Claim7 := { stood := { row := exchangeCountsRow, standIns := [], harness := (true, "280d2b39df52c169afcf87e6a6e3296e7a9a448542fbcf0de22342622afee9fe"), looks := false }, kinds := [], alts := [], laidByText := true, laidKinds := [.data, .data, .data], laidTests := true, laidLooks := .later }
def ExchangeCountsCardSaid : Prop := Claim7.holds Tryz.pinned (.plain (OpenSpec.ofChange exchangeCountsSpec)) exchangeCountsCard

/-- THE TIED CARD OF 'bitextlaw22.ExchangeRoundTrips'. -/
def exchangeRoundTripsCard : Claim7 := { stood := { row := exchangeRoundTripsRow, standIns := [], harness := (true, "280d2b39df52c169afcf87e6a6e3296e7a9a448542fbcf0de22342622afee9fe"), looks := false }, kinds := [], alts := [], laidByText := true, laidKinds := [.data, .data, .data], laidTests := true, laidLooks := .later }
def ExchangeRoundTripsCardSaid : Prop := Claim7.holds Tryz.pinned (.plain (OpenSpec.ofChange exchangeRoundTripsSpec)) exchangeRoundTripsCard

/-- THE TIED CARD OF 'bitextlaw22.ExchangeImports'. -/
def exchangeImportsCard : Claim7 := { stood := { row := exchangeImportsRow, standIns := [], harness := (true, "280d2b39df52c169afcf87e6a6e3296e7a9a448542fbcf0de22342622afee9fe"), looks := false }, kinds := [], alts := [], laidByText := true, laidKinds := [.data, .data, .data], laidTests := true, laidLooks := .later }
def ExchangeImportsCardSaid : Prop := Claim7.holds Tryz.pinned (.plain (OpenSpec.ofChange exchangeImportsSpec)) exchangeImportsCard

/-- THE TIED CARD OF 'bitextlaw22.ExchangeUnions'. -/
def exchangeUnionsCard : Claim7 := { stood := { row := exchangeUnionsRow, standIns := [], harness := (true, "280d2b39df52c169afcf87e6a6e3296e7a9a448542fbcf0de22342622afee9fe"), looks := false }, kinds := [], alts := [], laidByText := true, laidKinds := [.data, .data, .data], laidTests := true, laidLooks := .later }
def ExchangeUnionsCardSaid : Prop := Claim7.holds Tryz.pinned (.plain (OpenSpec.ofChange exchangeUnionsSpec)) exchangeUnionsCard

/-- THE SECOND FORM's CARD OF 'bitextlaw22.ExchangeFormats'. -/
def exchangeFormatsUptoCard : Claim7 := { stood := { row := exchangeFormatsUptoRow, standIns := [], harness := (true, "280d2b39df52c169afcf87e6a6e3296e7a9a448542fbcf0de22342622afee9fe"), looks := false }, kinds := [], alts := [], laidByText := true, laidKinds := [.data, .data, .data], laidTests := true, laidLooks := .later }
def ExchangeFormatsUptoCardSaid : Prop := Claim7.holds Tryz.pinned (.plain (OpenSpec.upto exchangeFormatsSpec)) exchangeFormatsUptoCard

/-- THE SECOND FORM's CARD OF 'bitextlaw22.ExchangeParses'. -/
def exchangeParsesUptoCard : Claim7 := { stood := { row := exchangeParsesUptoRow, standIns := [], harness := (true, "280d2b39df52c169afcf87e6a6e3296e7a9a448542fbcf0de22342622afee9fe"), looks := false }, kinds := [], alts := [], laidByText := true, laidKinds := [.data, .data, .data], laidTests := true, laidLooks := .later }
def ExchangeParsesUptoCardSaid : Prop := Claim7.holds Tryz.pinned (.plain (OpenSpec.upto exchangeParsesSpec)) exchangeParsesUptoCard

/-- THE SECOND FORM's CARD OF 'bitextlaw22.ExchangeReads'. -/
def exchangeReadsUptoCard : Claim7 := { stood := { row := exchangeReadsUptoRow, standIns := [], harness := (true, "280d2b39df52c169afcf87e6a6e3296e7a9a448542fbcf0de22342622afee9fe"), looks := false }, kinds := [], alts := [], laidByText := true, laidKinds := [.data, .data, .data], laidTests := true, laidLooks := .later }
def ExchangeReadsUptoCardSaid : Prop := Claim7.holds Tryz.pinned (.plain (OpenSpec.upto exchangeReadsSpec)) exchangeReadsUptoCard

/-- THE SECOND FORM's CARD OF 'bitextlaw22.ExchangeLines'. -/
def exchangeLinesUptoCard : Claim7 := { stood := { row := exchangeLinesUptoRow, standIns := [], harness := (true, "280d2b39df52c169afcf87e6a6e3296e7a9a448542fbcf0de22342622afee9fe"), looks := false }, kinds := [], alts := [], laidByText := true, laidKinds := [.data, .data, .data], laidTests := true, laidLooks := .later }
def ExchangeLinesUptoCardSaid : Prop := Claim7.holds Tryz.pinned (.plain (OpenSpec.upto exchangeLinesSpec)) exchangeLinesUptoCard

/-- THE SECOND FORM's CARD OF 'bitextlaw22.ExchangeCounts'. -/
def exchangeCountsUptoCard : Claim7 := { stood := { row := exchangeCountsUptoRow, standIns := [], harness := (true, "280d2b39df52c169afcf87e6a6e3296e7a9a448542fbcf0de22342622afee9fe"), looks := false }, kinds := [], alts := [], laidByText := true, laidKinds := [.data, .data, .data], laidTests := true, laidLooks := .later }
def ExchangeCountsUptoCardSaid : Prop := Claim7.holds Tryz.pinned (.plain (OpenSpec.upto exchangeCountsSpec)) exchangeCountsUptoCard

/-- THE SECOND FORM's CARD OF 'bitextlaw22.ExchangeRoundTrips'. -/
def exchangeRoundTripsUptoCard : Claim7 := { stood := { row := exchangeRoundTripsUptoRow, standIns := [], harness := (true, "280d2b39df52c169afcf87e6a6e3296e7a9a448542fbcf0de22342622afee9fe"), looks := false }, kinds := [], alts := [], laidByText := true, laidKinds := [.data, .data, .data], laidTests := true, laidLooks := .later }
def ExchangeRoundTripsUptoCardSaid : Prop := Claim7.holds Tryz.pinned (.plain (OpenSpec.upto exchangeRoundTripsSpec)) exchangeRoundTripsUptoCard

/-- THE SECOND FORM's CARD OF 'bitextlaw22.ExchangeImports'. -/
def exchangeImportsUptoCard : Claim7 := { stood := { row := exchangeImportsUptoRow, standIns := [], harness := (true, "280d2b39df52c169afcf87e6a6e3296e7a9a448542fbcf0de22342622afee9fe"), looks := false }, kinds := [], alts := [], laidByText := true, laidKinds := [.data, .data, .data], laidTests := true, laidLooks := .later }
def ExchangeImportsUptoCardSaid : Prop := Claim7.holds Tryz.pinned (.plain (OpenSpec.upto exchangeImportsSpec)) exchangeImportsUptoCard

/-- THE SECOND FORM's CARD OF 'bitextlaw22.ExchangeUnions'. -/
def exchangeUnionsUptoCard : Claim7 := { stood := { row := exchangeUnionsUptoRow, standIns := [], harness := (true, "280d2b39df52c169afcf87e6a6e3296e7a9a448542fbcf0de22342622afee9fe"), looks := false }, kinds := [], alts := [], laidByText := true, laidKinds := [.data, .data, .data], laidTests := true, laidLooks := .later }
def ExchangeUnionsUptoCardSaid : Prop := Claim7.holds Tryz.pinned (.plain (OpenSpec.upto exchangeUnionsSpec)) exchangeUnionsUptoCard
end Rows
end Go.Proofs.YtmjfblcmbcfkcaaGreatDoor
