/-
  DERIVED. GIVEN WITH THE SEED: THE CARDS: each row of YthnablnojflbnaaDoorRows.lean that lists a variable, with what it lists TIED to the program's text (the seventh form; the later family's looks); each row that meets fmt, with fmt's text TOLD by the authors' own Lean function (tested against real Go, not proved from fmt's source: count such statements apart). THE CARD IS WHAT COUNTS. Prove the row's statement (the work); the ties are given (YthnablnojflbnaaDoorTie.lean); close each card by the builder's one call (the guide's Derived/Test/ToyasCard.lean, 'card_holds'). Laid BY PROGRAM, IN A SANDBOX (cutbox-door.mjs). By AI agents, Wed Nov 11 2026. No macro, syntax, notation, axiom, sorry.
-/
import Derived.Test.YthnablnojflbnaaDoorRows
import GoSem.ClaimSeven
namespace Go.Proofs.YthnablnojflbnaaDoor
namespace Rows

/-- THE TIED CARD OF 'bitextlaw19.RepeatKeys'. -/
def repeatKeysCard : Claim7 := { stood := { row := repeatKeysRow, standIns := [], harness := (true, "9ebe2f0bd66529b73b74ebf347accd58263aee867542155040d1e6175780842a"), looks := false }, kinds := [], alts := [], laidByText := true, laidKinds := [.data, .data, .data], laidTests := true, laidLooks := .later }
def RepeatKeysCardSaid : Prop := Claim7.holds Tryd.pinned (.plain (OpenSpec.ofChange repeatKeysSpec)) repeatKeysCard

/-- THE TIED CARD OF 'bitextlaw19.RepeatFirst'. -/
def repeatFirstCard : Claim7 := { stood := { row := repeatFirstRow, standIns := [], harness := (true, "9ebe2f0bd66529b73b74ebf347accd58263aee867542155040d1e6175780842a"), looks := false }, kinds := [], alts := [], laidByText := true, laidKinds := [.data, .data, .data], laidTests := true, laidLooks := .later }
def RepeatFirstCardSaid : Prop := Claim7.holds Tryd.pinned (.plain (OpenSpec.ofChange repeatFirstSpec)) repeatFirstCard

/-- THE TIED CARD OF 'bitextlaw19.RepeatParts'. -/
def repeatPartsCard : Claim7 := { stood := { row := repeatPartsRow, standIns := [], harness := (true, "9ebe2f0bd66529b73b74ebf347accd58263aee867542155040d1e6175780842a"), looks := false }, kinds := [], alts := [], laidByText := true, laidKinds := [.data, .data, .data], laidTests := true, laidLooks := .later }
def RepeatPartsCardSaid : Prop := Claim7.holds Tryd.pinned (.plain (OpenSpec.ofChange repeatPartsSpec)) repeatPartsCard

/-- THE TIED CARD OF 'bitextlaw4.NotationFormats'. -/
def notationFormatsCard : Claim7 := { stood := { row := notationFormatsRow, standIns := [], harness := (true, "9ebe2f0bd66529b73b74ebf347accd58263aee867542155040d1e6175780842a"), looks := false }, kinds := [], alts := [], laidByText := true, laidKinds := [.data, .data, .data], laidTests := true, laidLooks := .later }
def NotationFormatsCardSaid : Prop := Claim7.holds Tryd.pinned (.plain (OpenSpec.ofChange notationFormatsSpec)) notationFormatsCard

/-- THE TIED CARD OF 'bitextlaw4.NotationParses'. -/
def notationParsesCard : Claim7 := { stood := { row := notationParsesRow, standIns := [], harness := (true, "9ebe2f0bd66529b73b74ebf347accd58263aee867542155040d1e6175780842a"), looks := false }, kinds := [], alts := [], laidByText := true, laidKinds := [.data, .data, .data], laidTests := true, laidLooks := .later }
def NotationParsesCardSaid : Prop := Claim7.holds Tryd.pinned (.plain (OpenSpec.ofChange notationParsesSpec)) notationParsesCard

/-- THE TIED CARD OF 'bitextlaw4.NotationRoundTrips'. -/
def notationRoundTripsCard : Claim7 := { stood := { row := notationRoundTripsRow, standIns := [], harness := (true, "9ebe2f0bd66529b73b74ebf347accd58263aee867542155040d1e6175780842a"), looks := false }, kinds := [], alts := [], laidByText := true, laidKinds := [.data, .data, .data], laidTests := true, laidLooks := .later }
def NotationRoundTripsCardSaid : Prop := Claim7.holds Tryd.pinned (.plain (OpenSpec.ofChange notationRoundTripsSpec)) notationRoundTripsCard

/-- THE TIED CARD OF 'bitextlaw4.NotationCanonical'. -/
def notationCanonicalCard : Claim7 := { stood := { row := notationCanonicalRow, standIns := [], harness := (true, "9ebe2f0bd66529b73b74ebf347accd58263aee867542155040d1e6175780842a"), looks := false }, kinds := [], alts := [], laidByText := true, laidKinds := [.data, .data, .data], laidTests := true, laidLooks := .later }
def NotationCanonicalCardSaid : Prop := Claim7.holds Tryd.pinned (.plain (OpenSpec.ofChange notationCanonicalSpec)) notationCanonicalCard

/-- THE TIED CARD OF 'bitextlaw4.NotationInjective'. -/
def notationInjectiveCard : Claim7 := { stood := { row := notationInjectiveRow, standIns := [], harness := (true, "9ebe2f0bd66529b73b74ebf347accd58263aee867542155040d1e6175780842a"), looks := false }, kinds := [], alts := [], laidByText := true, laidKinds := [.data, .data, .data], laidTests := true, laidLooks := .later }
def NotationInjectiveCardSaid : Prop := Claim7.holds Tryd.pinned (.plain (OpenSpec.ofChange notationInjectiveSpec)) notationInjectiveCard

/-- THE TIED CARD OF 'bitextlaw4.NotationPrefix'. -/
def notationPrefixCard : Claim7 := { stood := { row := notationPrefixRow, standIns := [], harness := (true, "9ebe2f0bd66529b73b74ebf347accd58263aee867542155040d1e6175780842a"), looks := false }, kinds := [], alts := [], laidByText := true, laidKinds := [.data, .data, .data], laidTests := true, laidLooks := .later }
def NotationPrefixCardSaid : Prop := Claim7.holds Tryd.pinned (.plain (OpenSpec.ofChange notationPrefixSpec)) notationPrefixCard

/-- THE TIED CARD OF 'bitextlaw4.NotationLimits'. -/
def notationLimitsCard : Claim7 := { stood := { row := notationLimitsRow, standIns := [], harness := (true, "9ebe2f0bd66529b73b74ebf347accd58263aee867542155040d1e6175780842a"), looks := false }, kinds := [], alts := [], laidByText := true, laidKinds := [.data, .data, .data], laidTests := true, laidLooks := .later }
def NotationLimitsCardSaid : Prop := Claim7.holds Tryd.pinned (.plain (OpenSpec.ofChange notationLimitsSpec)) notationLimitsCard

/-- THE TIED CARD OF 'bitextlaw19.RepeatBest'. -/
def repeatBestCard : Claim7 := { stood := { row := repeatBestRow, standIns := [], harness := (true, "9ebe2f0bd66529b73b74ebf347accd58263aee867542155040d1e6175780842a"), looks := false }, kinds := [], alts := [], laidByText := true, laidKinds := [.data, .data, .data], laidTests := true, laidLooks := .later }
def RepeatBestCardSaid : Prop := Claim7.holds Tryd.pinned (.plain (OpenSpec.ofChange repeatBestSpec)) repeatBestCard

/-- THE TIED CARD OF 'bitextlaw19.RepeatLimits'. -/
def repeatLimitsCard : Claim7 := { stood := { row := repeatLimitsRow, standIns := [], harness := (true, "9ebe2f0bd66529b73b74ebf347accd58263aee867542155040d1e6175780842a"), looks := false }, kinds := [], alts := [], laidByText := true, laidKinds := [.data, .data, .data], laidTests := true, laidLooks := .later }
def RepeatLimitsCardSaid : Prop := Claim7.holds Tryd.pinned (.plain (OpenSpec.ofChange repeatLimitsSpec)) repeatLimitsCard

/-- THE SECOND FORM's CARD OF 'bitextlaw19.RepeatKeys'. -/
def repeatKeysUptoCard : Claim7 := { stood := { row := repeatKeysUptoRow, standIns := [], harness := (true, "9ebe2f0bd66529b73b74ebf347accd58263aee867542155040d1e6175780842a"), looks := false }, kinds := [], alts := [], laidByText := true, laidKinds := [.data, .data, .data], laidTests := true, laidLooks := .later }
def RepeatKeysUptoCardSaid : Prop := Claim7.holds Tryd.pinned (.plain (OpenSpec.upto repeatKeysSpec)) repeatKeysUptoCard

/-- THE SECOND FORM's CARD OF 'bitextlaw19.RepeatFirst'. -/
def repeatFirstUptoCard : Claim7 := { stood := { row := repeatFirstUptoRow, standIns := [], harness := (true, "9ebe2f0bd66529b73b74ebf347accd58263aee867542155040d1e6175780842a"), looks := false }, kinds := [], alts := [], laidByText := true, laidKinds := [.data, .data, .data], laidTests := true, laidLooks := .later }
def RepeatFirstUptoCardSaid : Prop := Claim7.holds Tryd.pinned (.plain (OpenSpec.upto repeatFirstSpec)) repeatFirstUptoCard

/-- THE SECOND FORM's CARD OF 'bitextlaw19.RepeatParts'. -/
def repeatPartsUptoCard : Claim7 := { stood := { row := repeatPartsUptoRow, standIns := [], harness := (true, "9ebe2f0bd66529b73b74ebf347accd58263aee867542155040d1e6175780842a"), looks := false }, kinds := [], alts := [], laidByText := true, laidKinds := [.data, .data, .data], laidTests := true, laidLooks := .later }
def RepeatPartsUptoCardSaid : Prop := Claim7.holds Tryd.pinned (.plain (OpenSpec.upto repeatPartsSpec)) repeatPartsUptoCard

/-- THE SECOND FORM's CARD OF 'bitextlaw4.NotationFormats'. -/
def notationFormatsUptoCard : Claim7 := { stood := { row := notationFormatsUptoRow, standIns := [], harness := (true, "9ebe2f0bd66529b73b74ebf347accd58263aee867542155040d1e6175780842a"), looks := false }, kinds := [], alts := [], laidByText := true, laidKinds := [.data, .data, .data], laidTests := true, laidLooks := .later }
def NotationFormatsUptoCardSaid : Prop := Claim7.holds Tryd.pinned (.plain (OpenSpec.upto notationFormatsSpec)) notationFormatsUptoCard

/-- THE SECOND FORM's CARD OF 'bitextlaw4.NotationParses'. -/
def notationParsesUptoCard : Claim7 := { stood := { row := notationParsesUptoRow, standIns := [], harness := (true, "9ebe2f0bd66529b73b74ebf347accd58263aee867542155040d1e6175780842a"), looks := false }, kinds := [], alts := [], laidByText := true, laidKinds := [.data, .data, .data], laidTests := true, laidLooks := .later }
def NotationParsesUptoCardSaid : Prop := Claim7.holds Tryd.pinned (.plain (OpenSpec.upto notationParsesSpec)) notationParsesUptoCard

/-- THE SECOND FORM's CARD OF 'bitextlaw4.NotationRoundTrips'. -/
def notationRoundTripsUptoCard : Claim7 := { stood := { row := notationRoundTripsUptoRow, standIns := [], harness := (true, "9ebe2f0bd66529b73b74ebf347accd58263aee867542155040d1e6175780842a"), looks := false }, kinds := [], alts := [], laidByText := true, laidKinds := [.data, .data, .data], laidTests := true, laidLooks := .later }
def NotationRoundTripsUptoCardSaid : Prop := Claim7.holds Tryd.pinned (.plain (OpenSpec.upto notationRoundTripsSpec)) notationRoundTripsUptoCard

/-- THE SECOND FORM's CARD OF 'bitextlaw4.NotationCanonical'. -/
def notationCanonicalUptoCard : Claim7 := { stood := { row := notationCanonicalUptoRow, standIns := [], harness := (true, "9ebe2f0bd66529b73b74ebf347accd58263aee867542155040d1e6175780842a"), looks := false }, kinds := [], alts := [], laidByText := true, laidKinds := [.data, .data, .data], laidTests := true, laidLooks := .later }
def NotationCanonicalUptoCardSaid : Prop := Claim7.holds Tryd.pinned (.plain (OpenSpec.upto notationCanonicalSpec)) notationCanonicalUptoCard

/-- THE SECOND FORM's CARD OF 'bitextlaw4.NotationInjective'. -/
def notationInjectiveUptoCard : Claim7 := { stood := { row := notationInjectiveUptoRow, standIns := [], harness := (true, "9ebe2f0bd66529b73b74ebf347accd58263aee867542155040d1e6175780842a"), looks := false }, kinds := [], alts := [], laidByText := true, laidKinds := [.data, .data, .data], laidTests := true, laidLooks := .later }
def NotationInjectiveUptoCardSaid : Prop := Claim7.holds Tryd.pinned (.plain (OpenSpec.upto notationInjectiveSpec)) notationInjectiveUptoCard

/-- THE SECOND FORM's CARD OF 'bitextlaw4.NotationPrefix'. -/
def notationPrefixUptoCard : Claim7 := { stood := { row := notationPrefixUptoRow, standIns := [], harness := (true, "9ebe2f0bd66529b73b74ebf347accd58263aee867542155040d1e6175780842a"), looks := false }, kinds := [], alts := [], laidByText := true, laidKinds := [.data, .data, .data], laidTests := true, laidLooks := .later }
def NotationPrefixUptoCardSaid : Prop := Claim7.holds Tryd.pinned (.plain (OpenSpec.upto notationPrefixSpec)) notationPrefixUptoCard

/-- THE SECOND FORM's CARD OF 'bitextlaw4.NotationLimits'. -/
def notationLimitsUptoCard : Claim7 := { stood := { row := notationLimitsUptoRow, standIns := [], harness := (true, "9ebe2f0bd66529b73b74ebf347accd58263aee867542155040d1e6175780842a"), looks := false }, kinds := [], alts := [], laidByText := true, laidKinds := [.data, .data, .data], laidTests := true, laidLooks := .later }
def NotationLimitsUptoCardSaid : Prop := Claim7.holds Tryd.pinned (.plain (OpenSpec.upto notationLimitsSpec)) notationLimitsUptoCard

/-- THE SECOND FORM's CARD OF 'bitextlaw19.RepeatBest'. -/
def repeatBestUptoCard : Claim7 := { stood := { row := repeatBestUptoRow, standIns := [], harness := (true, "9ebe2f0bd66529b73b74ebf347accd58263aee867542155040d1e6175780842a"), looks := false }, kinds := [], alts := [], laidByText := true, laidKinds := [.data, .data, .data], laidTests := true, laidLooks := .later }
def RepeatBestUptoCardSaid : Prop := Claim7.holds Tryd.pinned (.plain (OpenSpec.upto repeatBestSpec)) repeatBestUptoCard

/-- THE SECOND FORM's CARD OF 'bitextlaw19.RepeatLimits'. -/
def repeatLimitsUptoCard : Claim7 := { stood := { row := repeatLimitsUptoRow, standIns := [], harness := (true, "9ebe2f0bd66529b73b74ebf347accd58263aee867542155040d1e6175780842a"), looks := false }, kinds := [], alts := [], laidByText := true, laidKinds := [.data, .data, .data], laidTests := true, laidLooks := .later }
def RepeatLimitsUptoCardSaid : Prop := Claim7.holds Tryd.pinned (.plain (OpenSpec.upto repeatLimitsSpec)) repeatLimitsUptoCard
end Rows
end Go.Proofs.YthnablnojflbnaaDoor
