/-
  DERIVED. GIVEN WITH THE SEED: THE CARDS: each row of YtigalfbihapdnaaGreatDoorRows.lean that lists a variable, with what it lists TIED to the program's text (the seventh form; the later family's looks); each row that meets fmt, with fmt's text TOLD by the authors' own Lean function (tested against real Go, not proved from fmt's source: count such statements apart). THE CARD IS WHAT COUNTS. Prove the row's statement (the work); the ties are given (YtigalfbihapdnaaGreatDoorTie.lean); close each card by the builder's one call (the guide's Derived/Test/ToyasCard.lean, 'card_holds'). Laid BY PROGRAM, IN A SANDBOX (cutbox-door.mjs). By AI agents, Wed Nov 11 2026. No macro, syntax, notation, axiom, sorry.
-/
import Derived.Test.YtigalfbihapdnaaGreatDoorRows
import GoSem.ClaimSeven
namespace Go.Proofs.YtigalfbihapdnaaGreatDoor
namespace Rows

/-- THE TIED CARD OF 'bitextlaw21.ConcordRefuses'. -/
def concordRefusesCard : Claim7 := { stood := { row := concordRefusesRow, standIns := [], harness := (true, "53ba57ac69404a10c2fb1e8bed01d0f0f4982a15a146c373249b332887811e3a"), looks := false }, kinds := [], alts := [], laidByText := true, laidKinds := [.data, .data, .data], laidTests := true, laidLooks := .later }
def ConcordRefusesCardSaid : Prop := Claim7.holds Tryz.pinned (.plain (OpenSpec.ofChange concordRefusesSpec)) concordRefusesCard

/-- THE TIED CARD OF 'bitextlaw16.MemoryKeys'. -/
def memoryKeysCard : Claim7 := { stood := { row := memoryKeysRow, standIns := [], harness := (true, "53ba57ac69404a10c2fb1e8bed01d0f0f4982a15a146c373249b332887811e3a"), looks := false }, kinds := [], alts := [], laidByText := true, laidKinds := [.data, .data, .data], laidTests := true, laidLooks := .later }
def MemoryKeysCardSaid : Prop := Claim7.holds Tryz.pinned (.plain (OpenSpec.ofChange memoryKeysSpec)) memoryKeysCard

/-- THE TIED CARD OF 'bitextlaw16.MemoryExchanges'. -/
def memoryExchangesCard : Claim7 := { stood := { row := memoryExchangesRow, standIns := [], harness := (true, "53ba57ac69404a10c2fb1e8bed01d0f0f4982a15a146c373249b332887811e3a"), looks := false }, kinds := [], alts := [], laidByText := true, laidKinds := [.data, .data, .data], laidTests := true, laidLooks := .later }
def MemoryExchangesCardSaid : Prop := Claim7.holds Tryz.pinned (.plain (OpenSpec.ofChange memoryExchangesSpec)) memoryExchangesCard

/-- THE TIED CARD OF 'bitextlaw16.MemoryPuts'. -/
def memoryPutsCard : Claim7 := { stood := { row := memoryPutsRow, standIns := [], harness := (true, "53ba57ac69404a10c2fb1e8bed01d0f0f4982a15a146c373249b332887811e3a"), looks := false }, kinds := [], alts := [], laidByText := true, laidKinds := [.data, .data, .data], laidTests := true, laidLooks := .later }
def MemoryPutsCardSaid : Prop := Claim7.holds Tryz.pinned (.plain (OpenSpec.ofChange memoryPutsSpec)) memoryPutsCard

/-- THE TIED CARD OF 'bitextlaw16.MemoryKeeps'. -/
def memoryKeepsCard : Claim7 := { stood := { row := memoryKeepsRow, standIns := [], harness := (true, "53ba57ac69404a10c2fb1e8bed01d0f0f4982a15a146c373249b332887811e3a"), looks := false }, kinds := [], alts := [], laidByText := true, laidKinds := [.data, .data, .data], laidTests := true, laidLooks := .later }
def MemoryKeepsCardSaid : Prop := Claim7.holds Tryz.pinned (.plain (OpenSpec.ofChange memoryKeepsSpec)) memoryKeepsCard

/-- THE TIED CARD OF 'bitextlaw16.MemoryValidates'. -/
def memoryValidatesCard : Claim7 := { stood := { row := memoryValidatesRow, standIns := [], harness := (true, "53ba57ac69404a10c2fb1e8bed01d0f0f4982a15a146c373249b332887811e3a"), looks := false }, kinds := [], alts := [], laidByText := true, laidKinds := [.data, .data, .data], laidTests := true, laidLooks := .later }
def MemoryValidatesCardSaid : Prop := Claim7.holds Tryz.pinned (.plain (OpenSpec.ofChange memoryValidatesSpec)) memoryValidatesCard

/-- THE TIED CARD OF 'bitextlaw16.MemoryOrder'. -/
def memoryOrderCard : Claim7 := { stood := { row := memoryOrderRow, standIns := [], harness := (true, "53ba57ac69404a10c2fb1e8bed01d0f0f4982a15a146c373249b332887811e3a"), looks := false }, kinds := [], alts := [], laidByText := true, laidKinds := [.data, .data, .data], laidTests := true, laidLooks := .later }
def MemoryOrderCardSaid : Prop := Claim7.holds Tryz.pinned (.plain (OpenSpec.ofChange memoryOrderSpec)) memoryOrderCard

/-- THE TIED CARD OF 'bitextlaw16.MemoryUnites'. -/
def memoryUnitesCard : Claim7 := { stood := { row := memoryUnitesRow, standIns := [], harness := (true, "53ba57ac69404a10c2fb1e8bed01d0f0f4982a15a146c373249b332887811e3a"), looks := false }, kinds := [], alts := [], laidByText := true, laidKinds := [.data, .data, .data], laidTests := true, laidLooks := .later }
def MemoryUnitesCardSaid : Prop := Claim7.holds Tryz.pinned (.plain (OpenSpec.ofChange memoryUnitesSpec)) memoryUnitesCard

/-- THE TIED CARD OF 'bitextlaw16.MemoryGreater'. -/
def memoryGreaterCard : Claim7 := { stood := { row := memoryGreaterRow, standIns := [], harness := (true, "53ba57ac69404a10c2fb1e8bed01d0f0f4982a15a146c373249b332887811e3a"), looks := false }, kinds := [], alts := [], laidByText := true, laidKinds := [.data, .data, .data], laidTests := true, laidLooks := .later }
def MemoryGreaterCardSaid : Prop := Claim7.holds Tryz.pinned (.plain (OpenSpec.ofChange memoryGreaterSpec)) memoryGreaterCard

/-- THE TIED CARD OF 'bitextlaw16.MemoryLimits'. -/
def memoryLimitsCard : Claim7 := { stood := { row := memoryLimitsRow, standIns := [], harness := (true, "53ba57ac69404a10c2fb1e8bed01d0f0f4982a15a146c373249b332887811e3a"), looks := false }, kinds := [], alts := [], laidByText := true, laidKinds := [.data, .data, .data], laidTests := true, laidLooks := .later }
def MemoryLimitsCardSaid : Prop := Claim7.holds Tryz.pinned (.plain (OpenSpec.ofChange memoryLimitsSpec)) memoryLimitsCard

/-- THE TIED CARD OF 'bitextlaw21.ConcordSearches'. -/
def concordSearchesCard : Claim7 := { stood := { row := concordSearchesRow, standIns := [], harness := (true, "53ba57ac69404a10c2fb1e8bed01d0f0f4982a15a146c373249b332887811e3a"), looks := false }, kinds := [], alts := [], laidByText := true, laidKinds := [.data, .data, .data], laidTests := true, laidLooks := .later }
def ConcordSearchesCardSaid : Prop := Claim7.holds Tryz.pinned (.plain (OpenSpec.ofChange concordSearchesSpec)) concordSearchesCard

/-- THE SECOND FORM's CARD OF 'bitextlaw21.ConcordRefuses'. -/
def concordRefusesUptoCard : Claim7 := { stood := { row := concordRefusesUptoRow, standIns := [], harness := (true, "53ba57ac69404a10c2fb1e8bed01d0f0f4982a15a146c373249b332887811e3a"), looks := false }, kinds := [], alts := [], laidByText := true, laidKinds := [.data, .data, .data], laidTests := true, laidLooks := .later }
def ConcordRefusesUptoCardSaid : Prop := Claim7.holds Tryz.pinned (.plain (OpenSpec.upto concordRefusesSpec)) concordRefusesUptoCard

/-- THE SECOND FORM's CARD OF 'bitextlaw16.MemoryKeys'. -/
def memoryKeysUptoCard : Claim7 := { stood := { row := memoryKeysUptoRow, standIns := [], harness := (true, "53ba57ac69404a10c2fb1e8bed01d0f0f4982a15a146c373249b332887811e3a"), looks := false }, kinds := [], alts := [], laidByText := true, laidKinds := [.data, .data, .data], laidTests := true, laidLooks := .later }
def MemoryKeysUptoCardSaid : Prop := Claim7.holds Tryz.pinned (.plain (OpenSpec.upto memoryKeysSpec)) memoryKeysUptoCard

/-- THE SECOND FORM's CARD OF 'bitextlaw16.MemoryExchanges'. -/
def memoryExchangesUptoCard : Claim7 := { stood := { row := memoryExchangesUptoRow, standIns := [], harness := (true, "53ba57ac69404a10c2fb1e8bed01d0f0f4982a15a146c373249b332887811e3a"), looks := false }, kinds := [], alts := [], laidByText := true, laidKinds := [.data, .data, .data], laidTests := true, laidLooks := .later }
def MemoryExchangesUptoCardSaid : Prop := Claim7.holds Tryz.pinned (.plain (OpenSpec.upto memoryExchangesSpec)) memoryExchangesUptoCard

/-- THE SECOND FORM's CARD OF 'bitextlaw16.MemoryPuts'. -/
def memoryPutsUptoCard : Claim7 := { stood := { row := memoryPutsUptoRow, standIns := [], harness := (true, "53ba57ac69404a10c2fb1e8bed01d0f0f4982a15a146c373249b332887811e3a"), looks := false }, kinds := [], alts := [], laidByText := true, laidKinds := [.data, .data, .data], laidTests := true, laidLooks := .later }
def MemoryPutsUptoCardSaid : Prop := Claim7.holds Tryz.pinned (.plain (OpenSpec.upto memoryPutsSpec)) memoryPutsUptoCard

/-- THE SECOND FORM's CARD OF 'bitextlaw16.MemoryKeeps'. -/
def memoryKeepsUptoCard : Claim7 := { stood := { row := memoryKeepsUptoRow, standIns := [], harness := (true, "53ba57ac69404a10c2fb1e8bed01d0f0f4982a15a146c373249b332887811e3a"), looks := false }, kinds := [], alts := [], laidByText := true, laidKinds := [.data, .data, .data], laidTests := true, laidLooks := .later }
def MemoryKeepsUptoCardSaid : Prop := Claim7.holds Tryz.pinned (.plain (OpenSpec.upto memoryKeepsSpec)) memoryKeepsUptoCard

/-- THE SECOND FORM's CARD OF 'bitextlaw16.MemoryValidates'. -/
def memoryValidatesUptoCard : Claim7 := { stood := { row := memoryValidatesUptoRow, standIns := [], harness := (true, "53ba57ac69404a10c2fb1e8bed01d0f0f4982a15a146c373249b332887811e3a"), looks := false }, kinds := [], alts := [], laidByText := true, laidKinds := [.data, .data, .data], laidTests := true, laidLooks := .later }
def MemoryValidatesUptoCardSaid : Prop := Claim7.holds Tryz.pinned (.plain (OpenSpec.upto memoryValidatesSpec)) memoryValidatesUptoCard

/-- THE SECOND FORM's CARD OF 'bitextlaw16.MemoryOrder'. -/
def memoryOrderUptoCard : Claim7 := { stood := { row := memoryOrderUptoRow, standIns := [], harness := (true, "53ba57ac69404a10c2fb1e8bed01d0f0f4982a15a146c373249b332887811e3a"), looks := false }, kinds := [], alts := [], laidByText := true, laidKinds := [.data, .data, .data], laidTests := true, laidLooks := .later }
def MemoryOrderUptoCardSaid : Prop := Claim7.holds Tryz.pinned (.plain (OpenSpec.upto memoryOrderSpec)) memoryOrderUptoCard

/-- THE SECOND FORM's CARD OF 'bitextlaw16.MemoryUnites'. -/
def memoryUnitesUptoCard : Claim7 := { stood := { row := memoryUnitesUptoRow, standIns := [], harness := (true, "53ba57ac69404a10c2fb1e8bed01d0f0f4982a15a146c373249b332887811e3a"), looks := false }, kinds := [], alts := [], laidByText := true, laidKinds := [.data, .data, .data], laidTests := true, laidLooks := .later }
def MemoryUnitesUptoCardSaid : Prop := Claim7.holds Tryz.pinned (.plain (OpenSpec.upto memoryUnitesSpec)) memoryUnitesUptoCard

/-- THE SECOND FORM's CARD OF 'bitextlaw16.MemoryGreater'. -/
def memoryGreaterUptoCard : Claim7 := { stood := { row := memoryGreaterUptoRow, standIns := [], harness := (true, "53ba57ac69404a10c2fb1e8bed01d0f0f4982a15a146c373249b332887811e3a"), looks := false }, kinds := [], alts := [], laidByText := true, laidKinds := [.data, .data, .data], laidTests := true, laidLooks := .later }
def MemoryGreaterUptoCardSaid : Prop := Claim7.holds Tryz.pinned (.plain (OpenSpec.upto memoryGreaterSpec)) memoryGreaterUptoCard

/-- THE SECOND FORM's CARD OF 'bitextlaw16.MemoryLimits'. -/
def memoryLimitsUptoCard : Claim7 := { stood := { row := memoryLimitsUptoRow, standIns := [], harness := (true, "53ba57ac69404a10c2fb1e8bed01d0f0f4982a15a146c373249b332887811e3a"), looks := false }, kinds := [], alts := [], laidByText := true, laidKinds := [.data, .data, .data], laidTests := true, laidLooks := .later }
def MemoryLimitsUptoCardSaid : Prop := Claim7.holds Tryz.pinned (.plain (OpenSpec.upto memoryLimitsSpec)) memoryLimitsUptoCard

/-- THE SECOND FORM's CARD OF 'bitextlaw21.ConcordSearches'. -/
def concordSearchesUptoCard : Claim7 := { stood := { row := concordSearchesUptoRow, standIns := [], harness := (true, "53ba57ac69404a10c2fb1e8bed01d0f0f4982a15a146c373249b332887811e3a"), looks := false }, kinds := [], alts := [], laidByText := true, laidKinds := [.data, .data, .data], laidTests := true, laidLooks := .later }
def ConcordSearchesUptoCardSaid : Prop := Claim7.holds Tryz.pinned (.plain (OpenSpec.upto concordSearchesSpec)) concordSearchesUptoCard
end Rows
end Go.Proofs.YtigalfbihapdnaaGreatDoor
