/-
  DERIVED. GIVEN WITH THE SEED: THE CARDS: each row of YtgbjlnijjonidaaDoorRows.lean that lists a variable, with what it lists TIED to the program's text (the seventh form; the later family's looks); each row that meets fmt, with fmt's text TOLD by the authors' own Lean function (tested against real Go, not proved from fmt's source: count such statements apart). THE CARD IS WHAT COUNTS. Prove the row's statement (the work); the ties are given (YtgbjlnijjonidaaDoorTie.lean); close each card by the builder's one call (the guide's Derived/Test/ToyasCard.lean, 'card_holds'). Laid BY PROGRAM, IN A SANDBOX (cutbox-door.mjs). By AI agents, Wed Nov 11 2026. No macro, syntax, notation, axiom, sorry.
-/
import Derived.Test.YtgbjlnijjonidaaDoorRows
import GoSem.ClaimSeven
namespace Go.Proofs.YtgbjlnijjonidaaDoor
namespace Rows

/-- THE TIED CARD OF 'bitextlaw19.RepeatBest'. -/
def repeatBestCard : Claim7 := { stood := { row := repeatBestRow, standIns := [], harness := (true, "9e1552080e0bce5f81409c89f11980492f35c461cf6d20db2a8ced7c66cb4a15"), looks := false }, kinds := [], alts := [], laidByText := true, laidKinds := [.data, .data, .data], laidTests := true, laidLooks := .later }
def RepeatBestCardSaid : Prop := Claim7.holds Tryd.pinned (.plain (OpenSpec.ofChange repeatBestSpec)) repeatBestCard

/-- THE TIED CARD OF 'bitextlaw19.RepeatLimits'. -/
def repeatLimitsCard : Claim7 := { stood := { row := repeatLimitsRow, standIns := [], harness := (true, "9e1552080e0bce5f81409c89f11980492f35c461cf6d20db2a8ced7c66cb4a15"), looks := false }, kinds := [], alts := [], laidByText := true, laidKinds := [.data, .data, .data], laidTests := true, laidLooks := .later }
def RepeatLimitsCardSaid : Prop := Claim7.holds Tryd.pinned (.plain (OpenSpec.ofChange repeatLimitsSpec)) repeatLimitsCard

/-- THE SECOND FORM's CARD OF 'bitextlaw19.RepeatBest'. -/
def repeatBestUptoCard : Claim7 := { stood := { row := repeatBestUptoRow, standIns := [], harness := (true, "9e1552080e0bce5f81409c89f11980492f35c461cf6d20db2a8ced7c66cb4a15"), looks := false }, kinds := [], alts := [], laidByText := true, laidKinds := [.data, .data, .data], laidTests := true, laidLooks := .later }
def RepeatBestUptoCardSaid : Prop := Claim7.holds Tryd.pinned (.plain (OpenSpec.upto repeatBestSpec)) repeatBestUptoCard

/-- THE SECOND FORM's CARD OF 'bitextlaw19.RepeatLimits'. -/
def repeatLimitsUptoCard : Claim7 := { stood := { row := repeatLimitsUptoRow, standIns := [], harness := (true, "9e1552080e0bce5f81409c89f11980492f35c461cf6d20db2a8ced7c66cb4a15"), looks := false }, kinds := [], alts := [], laidByText := true, laidKinds := [.data, .data, .data], laidTests := true, laidLooks := .later }
def RepeatLimitsUptoCardSaid : Prop := Claim7.holds Tryd.pinned (.plain (OpenSpec.upto repeatLimitsSpec)) repeatLimitsUptoCard
end Rows
end Go.Proofs.YtgbjlnijjonidaaDoor
