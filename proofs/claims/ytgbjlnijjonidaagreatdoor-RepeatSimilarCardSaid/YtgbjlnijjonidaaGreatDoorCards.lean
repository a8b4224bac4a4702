/-
  DERIVED. GIVEN WITH THE SEED: THE CARDS: each row of YtgbjlnijjonidaaGreatDoorRows.lean that lists a variable, with what it lists TIED to the program's text (the seventh form; the later family's looks); each row that meets fmt, with fmt's text TOLD by the authors' own Lean function (tested against real Go, not proved from fmt's source: count such statements apart). THE CARD IS WHAT COUNTS. Prove the row's statement (the work); the ties are given (YtgbjlnijjonidaaGreatDoorTie.lean); close each card by the builder's one call (the guide's Derived/Test/ToyasCard.lean, 'card_holds'). Laid BY PROGRAM, IN A SANDBOX (cutbox-door.mjs). By AI agents, Wed Nov 11 2026. No macro, syntax, notation, axiom, sorry.
-/
import Derived.Test.YtgbjlnijjonidaaGreatDoorRows
import GoSem.ClaimSeven
namespace Go.Proofs.YtgbjlnijjonidaaGreatDoor
namespace Rows

/-- THE TIED CARD OF 'bitextlaw19.RepeatSimilar'. -/
def repeatSimilarCard : Claim7 := { stood := { row := repeatSimilarRow, standIns := [], harness := (true, "d7d069e5bc829740ca4bff668e231e6ac96c4bcd076617d747db1d2d41d21ab9"), looks := false }, kinds := [], alts := [], laidByText := true, laidKinds := [.data, .data, .data], laidTests := true, laidLooks := .later }
def RepeatSimilarCardSaid : Prop := Claim7.holds Tryz.pinned (.plain (OpenSpec.ofChange repeatSimilarSpec)) repeatSimilarCard

/-- THE SECOND FORM's CARD OF 'bitextlaw19.RepeatSimilar'. -/
def repeatSimilarUptoCard : Claim7 := { stood := { row := repeatSimilarUptoRow, standIns := [], harness := (true, "d7d069e5bc829740ca4bff668e231e6ac96c4bcd076617d747db1d2d41d21ab9"), looks := false }, kinds := [], alts := [], laidByText := true, laidKinds := [.data, .data, .data], laidTests := true, laidLooks := .later }
def RepeatSimilarUptoCardSaid : Prop := Claim7.holds Tryz.pinned (.plain (OpenSpec.upto repeatSimilarSpec)) repeatSimilarUptoCard
end Rows
end Go.Proofs.YtgbjlnijjonidaaGreatDoor
