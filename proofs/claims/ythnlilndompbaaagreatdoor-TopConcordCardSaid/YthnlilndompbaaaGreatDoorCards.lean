/-
  DERIVED. GIVEN WITH THE SEED: THE CARDS: each row of YthnlilndompbaaaGreatDoorRows.lean that lists a variable, with what it lists TIED to the program's text (the seventh form; the later family's looks); each row that meets fmt, with fmt's text TOLD by the authors' own Lean function (tested against real Go, not proved from fmt's source: count such statements apart). THE CARD IS WHAT COUNTS. Prove the row's statement (the work); the ties are given (YthnlilndompbaaaGreatDoorTie.lean); close each card by the builder's one call (the guide's Derived/Test/ToyasCard.lean, 'card_holds'). Laid BY PROGRAM, IN A SANDBOX (cutbox-door.mjs). By AI agents, Wed Nov 11 2026. No macro, syntax, notation, axiom, sorry.
-/
import Derived.Test.YthnlilndompbaaaGreatDoorRows
import GoSem.ClaimSeven
namespace Go.Proofs.YthnlilndompbaaaGreatDoor
namespace Rows

/-- THE TIED CARD OF 'bitexttop.TopConcord'. -/
def topConcordCard : Claim7 := { stood := { row := topConcordRow, standIns := [], harness := (true, "072ca15fd01badecaf5575803b5a17478b4f477ec13ec82d1413c7f9b050e471"), looks := true }, kinds := [], alts := [], laidByText := true, laidKinds := [.data, .data, .data, .data, .pinned], laidTests := true, laidLooks := .later }
def TopConcordCardSaid : Prop := Claim7.holds Tryz.pinned (.plain (OpenSpec.ofChange topConcordSpec)) topConcordCard

/-- THE SECOND FORM's CARD OF 'bitexttop.TopConcord'. -/
def topConcordUptoCard : Claim7 := { stood := { row := topConcordUptoRow, standIns := [], harness := (true, "072ca15fd01badecaf5575803b5a17478b4f477ec13ec82d1413c7f9b050e471"), looks := true }, kinds := [], alts := [], laidByText := true, laidKinds := [.data, .data, .data, .data, .pinned], laidTests := true, laidLooks := .later }
def TopConcordUptoCardSaid : Prop := Claim7.holds Tryz.pinned (.plain (OpenSpec.upto topConcordSpec)) topConcordUptoCard
end Rows
end Go.Proofs.YthnlilndompbaaaGreatDoor
