/-
  DERIVED. GIVEN WITH THE SEED: THE CARDS: each row of YtmneimfhcjkinaaDoorRows.lean that lists a variable, with what it lists TIED to the program's text (the seventh form; the later family's looks); each row that meets fmt, with fmt's text TOLD by the authors' own Lean function (tested against real Go, not proved from fmt's source: count such statements apart). THE CARD IS WHAT COUNTS. Prove the row's statement (the work); the ties are given (YtmneimfhcjkinaaDoorTie.lean); close each card by the builder's one call (the guide's Derived/Test/ToyasCard.lean, 'card_holds'). Laid BY PROGRAM, IN A SANDBOX (cutbox-door.mjs). By AI agents, Wed Nov 11 2026. No macro, syntax, notation, axiom, sorry.
-/
import Derived.Test.YtmneimfhcjkinaaDoorRows
import GoSem.ClaimSeven
namespace Go.Proofs.YtmneimfhcjkinaaDoor
namespace Rows

/-- THE TIED CARD OF 'logboomlaw9.RaftlogOrder'. -/
def raftlogOrderCard : Claim7 := { stood := { row := raftlogOrderRow, standIns := [], harness := (true, "e2e48f1ffdec53cb6b101f1a49eab58d9d51e17666a9b0ddb4248a1d4a5e6d5a"), looks := false }, kinds := [], alts := [], laidByText := true, laidKinds := [.data, .pinned], laidTests := true, laidLooks := .later }
def RaftlogOrderCardSaid : Prop := Claim7.holds Tryd.pinned (.plain (OpenSpec.ofChange raftlogOrderSpec)) raftlogOrderCard

/-- THE TIED CARD OF 'logboomlaw9.RaftlogFull'. -/
def raftlogFullCard : Claim7 := { stood := { row := raftlogFullRow, standIns := [], harness := (true, "e2e48f1ffdec53cb6b101f1a49eab58d9d51e17666a9b0ddb4248a1d4a5e6d5a"), looks := false }, kinds := [], alts := [], laidByText := true, laidKinds := [.data, .pinned], laidTests := true, laidLooks := .later }
def RaftlogFullCardSaid : Prop := Claim7.holds Tryd.pinned (.plain (OpenSpec.ofChange raftlogFullSpec)) raftlogFullCard

/-- THE TIED CARD OF 'logboomlaw9.RaftlogSurvives'. -/
def raftlogSurvivesCard : Claim7 := { stood := { row := raftlogSurvivesRow, standIns := [], harness := (true, "e2e48f1ffdec53cb6b101f1a49eab58d9d51e17666a9b0ddb4248a1d4a5e6d5a"), looks := false }, kinds := [], alts := [], laidByText := true, laidKinds := [.data, .pinned], laidTests := true, laidLooks := .later }
def RaftlogSurvivesCardSaid : Prop := Claim7.holds Tryd.pinned (.plain (OpenSpec.ofChange raftlogSurvivesSpec)) raftlogSurvivesCard

/-- THE SECOND FORM's CARD OF 'logboomlaw9.RaftlogOrder'. -/
def raftlogOrderUptoCard : Claim7 := { stood := { row := raftlogOrderUptoRow, standIns := [], harness := (true, "e2e48f1ffdec53cb6b101f1a49eab58d9d51e17666a9b0ddb4248a1d4a5e6d5a"), looks := false }, kinds := [], alts := [], laidByText := true, laidKinds := [.data, .pinned], laidTests := true, laidLooks := .later }
def RaftlogOrderUptoCardSaid : Prop := Claim7.holds Tryd.pinned (.plain (OpenSpec.upto raftlogOrderSpec)) raftlogOrderUptoCard

/-- THE SECOND FORM's CARD OF 'logboomlaw9.RaftlogFull'. -/
def raftlogFullUptoCard : Claim7 := { stood := { row := raftlogFullUptoRow, standIns := [], harness := (true, "e2e48f1ffdec53cb6b101f1a49eab58d9d51e17666a9b0ddb4248a1d4a5e6d5a"), looks := false }, kinds := [], alts := [], laidByText := true, laidKinds := [.data, .pinned], laidTests := true, laidLooks := .later }
def RaftlogFullUptoCardSaid : Prop := Claim7.holds Tryd.pinned (.plain (OpenSpec.upto raftlogFullSpec)) raftlogFullUptoCard

/-- THE SECOND FORM's CARD OF 'logboomlaw9.RaftlogSurvives'. -/
def raftlogSurvivesUptoCard : Claim7 := { stood := { row := raftlogSurvivesUptoRow, standIns := [], harness := (true, "e2e48f1ffdec53cb6b101f1a49eab58d9d51e17666a9b0ddb4248a1d4a5e6d5a"), looks := false }, kinds := [], alts := [], laidByText := true, laidKinds := [.data, .pinned], laidTests := true, laidLooks := .later }
def RaftlogSurvivesUptoCardSaid : Prop := Claim7.holds Tryd.pinned (.plain (OpenSpec.upto raftlogSurvivesSpec)) raftlogSurvivesUptoCard
end Rows
end Go.Proofs.YtmneimfhcjkinaaDoor
