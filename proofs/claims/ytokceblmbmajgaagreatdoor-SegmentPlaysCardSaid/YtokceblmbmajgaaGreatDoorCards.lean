/-
  DERIVED. GIVEN WITH THE SEED: THE CARDS: each row of YtokceblmbmajgaaGreatDoorRows.lean that lists a variable, with what it lists TIED to the program's text (the seventh form; the later family's looks); each row that meets fmt, with fmt's text TOLD by the authors' own Lean function (tested against real Go, not proved from fmt's source: count such statements apart). THE CARD IS WHAT COUNTS. Prove the row's statement (the work); the ties are given (YtokceblmbmajgaaGreatDoorTie.lean); close each card by the builder's one call (the guide's Derived/Test/ToyasCard.lean, 'card_holds'). Laid BY PROGRAM, IN A SANDBOX (cutbox-door.mjs). By AI agents, Wed Nov 11 2026. No macro, syntax, notation, axiom, sorry.
-/
import Derived.Test.YtokceblmbmajgaaGreatDoorRows
import GoSem.ClaimSeven
namespace Go.Proofs.YtokceblmbmajgaaGreatDoor
namespace Rows

/-- THE TIED CARD OF 'logboomlaw5.SegmentPlays'. -/
def segmentPlaysCard : Claim7 := { stood := { row := segmentPlaysRow, standIns := [], harness := (true, "8fc079e862120b6f43ac5e900b1340e75e11e4e55649c29e90cd6f20a74fa677"), looks := false }, kinds := [], alts := [], laidByText := true, laidKinds := [.data, .pinned], laidTests := true, laidLooks := .later }
def SegmentPlaysCardSaid : Prop := Claim7.holds Tryz.pinned (.plain (OpenSpec.ofChange segmentPlaysSpec)) segmentPlaysCard

/-- THE SECOND FORM's CARD OF 'logboomlaw5.SegmentPlays'. -/
def segmentPlaysUptoCard : Claim7 := { stood := { row := segmentPlaysUptoRow, standIns := [], harness := (true, "8fc079e862120b6f43ac5e900b1340e75e11e4e55649c29e90cd6f20a74fa677"), looks := false }, kinds := [], alts := [], laidByText := true, laidKinds := [.data, .pinned], laidTests := true, laidLooks := .later }
def SegmentPlaysUptoCardSaid : Prop := Claim7.holds Tryz.pinned (.plain (OpenSpec.upto segmentPlaysSpec)) segmentPlaysUptoCard
end Rows
end Go.Proofs.YtokceblmbmajgaaGreatDoor
