/-
  DERIVED. GIVEN WITH THE SEED: THE CARDS: each row of YtdgmifbcbmndgaaGreatDoorRows.lean that lists a variable, with what it lists TIED to the program's text (the seventh form; the later family's looks); each row that meets fmt, with fmt's text TOLD by the authors' own Lean function (tested against real Go, not proved from fmt's source: count such statements apart). THE CARD IS WHAT COUNTS. Prove the row's statement (the work); the ties are given (YtdgmifbcbmndgaaGreatDoorTie.lean); close each card by the builder's one call (the guide's Derived/Test/ToyasCard.lean, 'card_holds'). Laid BY PROGRAM, IN A SANDBOX (cutbox-door.mjs). By AI agents, Wed Nov 11 2026. No macro, syntax, notation, axiom, sorry.
-/
import Derived.Test.YtdgmifbcbmndgaaGreatDoorRows
import GoSem.ClaimSeven
namespace Go.Proofs.YtdgmifbcbmndgaaGreatDoor
namespace Rows

/-- THE TIED CARD OF 'logboomlaw7.EpochPlays'. -/
def epochPlaysCard : Claim7 := { stood := { row := epochPlaysRow, standIns := [], harness := (true, "94f3c460a468006acfb8531332334833ffa589fbf58ba69875495ecb986c4583"), looks := false }, kinds := [], alts := [], laidByText := true, laidKinds := [.data, .pinned], laidTests := true, laidLooks := .later }
def EpochPlaysCardSaid : Prop := Claim7.holds Tryz.pinned (.plain (OpenSpec.ofChange epochPlaysSpec)) epochPlaysCard

/-- THE SECOND FORM's CARD OF 'logboomlaw7.EpochPlays'. -/
def epochPlaysUptoCard : Claim7 := { stood := { row := epochPlaysUptoRow, standIns := [], harness := (true, "94f3c460a468006acfb8531332334833ffa589fbf58ba69875495ecb986c4583"), looks := false }, kinds := [], alts := [], laidByText := true, laidKinds := [.data, .pinned], laidTests := true, laidLooks := .later }
def EpochPlaysUptoCardSaid : Prop := Claim7.holds Tryz.pinned (.plain (OpenSpec.upto epochPlaysSpec)) epochPlaysUptoCard
end Rows
end Go.Proofs.YtdgmifbcbmndgaaGreatDoor
