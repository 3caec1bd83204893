/-
  DERIVED. GIVEN WITH THE SEED: THE CARDS: each row of YthldclmeojkboaaGreatDoorRows.lean that lists a variable, with what it lists TIED to the program's text (the seventh form; the later family's looks); each row that meets fmt, with fmt's text TOLD by the authors' own Lean function (tested against real Go, not proved from fmt's source: count such statements apart). THE CARD IS WHAT COUNTS. Prove the row's statement (the work); the ties are given (YthldclmeojkboaaGreatDoorTie.lean); close each card by the builder's one call (the guide's Derived/Test/ToyasCard.lean, 'card_holds'). Laid BY PROGRAM, IN A SANDBOX (cutbox-door.mjs). By AI agents, Wed Nov 11 2026. No macro, syntax, notation, axiom, sorry.
-/
import Derived.Test.YthldclmeojkboaaGreatDoorRows
import GoSem.ClaimSeven
namespace Go.Proofs.YthldclmeojkboaaGreatDoor
namespace Rows

/-- THE TIED CARD OF 'logboomlaw10.RaftVotes'. -/
def raftVotesCard : Claim7 := { stood := { row := raftVotesRow, standIns := [], harness := (true, "3e1703e691cda019439e6328858d331b8ab41e4cca5562590ccae687c1cc705f"), looks := false }, kinds := [], alts := [], laidByText := true, laidKinds := [.data, .pinned], laidTests := true, laidLooks := .later }
def RaftVotesCardSaid : Prop := Claim7.holds Tryz.pinned (.plain (OpenSpec.ofChange raftVotesSpec)) raftVotesCard

/-- THE TIED CARD OF 'logboomlaw10.RaftAlone'. -/
def raftAloneCard : Claim7 := { stood := { row := raftAloneRow, standIns := [], harness := (true, "3e1703e691cda019439e6328858d331b8ab41e4cca5562590ccae687c1cc705f"), looks := false }, kinds := [], alts := [], laidByText := true, laidKinds := [.data, .pinned], laidTests := true, laidLooks := .later }
def RaftAloneCardSaid : Prop := Claim7.holds Tryz.pinned (.plain (OpenSpec.ofChange raftAloneSpec)) raftAloneCard

/-- THE TIED CARD OF 'logboomlaw10.RaftSafe'. -/
def raftSafeCard : Claim7 := { stood := { row := raftSafeRow, standIns := [], harness := (true, "3e1703e691cda019439e6328858d331b8ab41e4cca5562590ccae687c1cc705f"), looks := false }, kinds := [], alts := [], laidByText := true, laidKinds := [.data, .pinned], laidTests := true, laidLooks := .later }
def RaftSafeCardSaid : Prop := Claim7.holds Tryz.pinned (.plain (OpenSpec.ofChange raftSafeSpec)) raftSafeCard

/-- THE TIED CARD OF 'logboomlaw10.RaftCalm'. -/
def raftCalmCard : Claim7 := { stood := { row := raftCalmRow, standIns := [], harness := (true, "3e1703e691cda019439e6328858d331b8ab41e4cca5562590ccae687c1cc705f"), looks := false }, kinds := [], alts := [], laidByText := true, laidKinds := [.data, .pinned], laidTests := true, laidLooks := .later }
def RaftCalmCardSaid : Prop := Claim7.holds Tryz.pinned (.plain (OpenSpec.ofChange raftCalmSpec)) raftCalmCard

/-- THE TIED CARD OF 'logboomlaw10.RaftPlays'. -/
def raftPlaysCard : Claim7 := { stood := { row := raftPlaysRow, standIns := [], harness := (true, "3e1703e691cda019439e6328858d331b8ab41e4cca5562590ccae687c1cc705f"), looks := false }, kinds := [], alts := [], laidByText := true, laidKinds := [.data, .pinned], laidTests := true, laidLooks := .later }
def RaftPlaysCardSaid : Prop := Claim7.holds Tryz.pinned (.plain (OpenSpec.ofChange raftPlaysSpec)) raftPlaysCard

/-- THE SECOND FORM's CARD OF 'logboomlaw10.RaftVotes'. -/
def raftVotesUptoCard : Claim7 := { stood := { row := raftVotesUptoRow, standIns := [], harness := (true, "3e1703e691cda019439e6328858d331b8ab41e4cca5562590ccae687c1cc705f"), looks := false }, kinds := [], alts := [], laidByText := true, laidKinds := [.data, .pinned], laidTests := true, laidLooks := .later }
def RaftVotesUptoCardSaid : Prop := Claim7.holds Tryz.pinned (.plain (OpenSpec.upto raftVotesSpec)) raftVotesUptoCard

/-- THE SECOND FORM's CARD OF 'logboomlaw10.RaftAlone'. -/
def raftAloneUptoCard : Claim7 := { stood := { row := raftAloneUptoRow, standIns := [], harness := (true, "3e1703e691cda019439e6328858d331b8ab41e4cca5562590ccae687c1cc705f"), looks := false }, kinds := [], alts := [], laidByText := true, laidKinds := [.data, .pinned], laidTests := true, laidLooks := .later }
def RaftAloneUptoCardSaid : Prop := Claim7.holds Tryz.pinned (.plain (OpenSpec.upto raftAloneSpec)) raftAloneUptoCard

/-- THE SECOND FORM's CARD OF 'logboomlaw10.RaftSafe'. -/
def raftSafeUptoCard : Claim7 := { stood := { row := raftSafeUptoRow, standIns := [], harness := (true, "3e1703e691cda019439e6328858d331b8ab41e4cca5562590ccae687c1cc705f"), looks := false }, kinds := [], alts := [], laidByText := true, laidKinds := [.data, .pinned], laidTests := true, laidLooks := .later }
def RaftSafeUptoCardSaid : Prop := Claim7.holds Tryz.pinned (.plain (OpenSpec.upto raftSafeSpec)) raftSafeUptoCard

/-- THE SECOND FORM's CARD OF 'logboomlaw10.RaftCalm'. -/
def raftCalmUptoCard : Claim7 := { stood := { row := raftCalmUptoRow, standIns := [], harness := (true, "3e1703e691cda019439e6328858d331b8ab41e4cca5562590ccae687c1cc705f"), looks := false }, kinds := [], alts := [], laidByText := true, laidKinds := [.data, .pinned], laidTests := true, laidLooks := .later }
def RaftCalmUptoCardSaid : Prop := Claim7.holds Tryz.pinned (.plain (OpenSpec.upto raftCalmSpec)) raftCalmUptoCard

/-- THE SECOND FORM's CARD OF 'logboomlaw10.RaftPlays'. -/
def raftPlaysUptoCard : Claim7 := { stood := { row := raftPlaysUptoRow, standIns := [], harness := (true, "3e1703e691cda019439e6328858d331b8ab41e4cca5562590ccae687c1cc705f"), looks := false }, kinds := [], alts := [], laidByText := true, laidKinds := [.data, .pinned], laidTests := true, laidLooks := .later }
def RaftPlaysUptoCardSaid : Prop := Claim7.holds Tryz.pinned (.plain (OpenSpec.upto raftPlaysSpec)) raftPlaysUptoCard
end Rows
end Go.Proofs.YthldclmeojkboaaGreatDoor
