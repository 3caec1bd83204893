/-
  DERIVED. GIVEN WITH THE SEED: THE CARDS: each row of YtcbobncipnjbjaaDoorRows.lean that lists a variable, with what it lists TIED to the program's text (the seventh form; the later family's looks); each row that meets fmt, with fmt's text TOLD by the authors' own Lean function (tested against real Go, not proved from fmt's source: count such statements apart). THE CARD IS WHAT COUNTS. Prove the row's statement (the work); the ties are given (YtcbobncipnjbjaaDoorTie.lean); close each card by the builder's one call (the guide's Derived/Test/ToyasCard.lean, 'card_holds'). Laid BY PROGRAM, IN A SANDBOX (cutbox-door.mjs). By AI agents, Wed Nov 11 2026. No macro, syntax, notation, axiom, sorry.
-/
import Derived.Test.YtcbobncipnjbjaaDoorRows
import GoSem.ClaimSeven
namespace Go.Proofs.YtcbobncipnjbjaaDoor
namespace Rows

/-- THE TIED CARD OF 'logboomlaw15.GroupAssigns'. -/
def groupAssignsCard : Claim7 := { stood := { row := groupAssignsRow, standIns := [], harness := (true, "d76df2542a0b3a85d1b7a1c825d93af442099d820150f378e65660b3cecf7b88"), looks := false }, kinds := [], alts := [], laidByText := true, laidKinds := [.data, .pinned], laidTests := true, laidLooks := .later }
def GroupAssignsCardSaid : Prop := Claim7.holds Tryd.pinned (.plain (OpenSpec.ofChange groupAssignsSpec)) groupAssignsCard

/-- THE TIED CARD OF 'logboomlaw15.GroupOnce'. -/
def groupOnceCard : Claim7 := { stood := { row := groupOnceRow, standIns := [], harness := (true, "d76df2542a0b3a85d1b7a1c825d93af442099d820150f378e65660b3cecf7b88"), looks := false }, kinds := [], alts := [], laidByText := true, laidKinds := [.data, .pinned], laidTests := true, laidLooks := .later }
def GroupOnceCardSaid : Prop := Claim7.holds Tryd.pinned (.plain (OpenSpec.ofChange groupOnceSpec)) groupOnceCard

/-- THE TIED CARD OF 'logboomlaw15.GroupApart'. -/
def groupApartCard : Claim7 := { stood := { row := groupApartRow, standIns := [], harness := (true, "d76df2542a0b3a85d1b7a1c825d93af442099d820150f378e65660b3cecf7b88"), looks := false }, kinds := [], alts := [], laidByText := true, laidKinds := [.data, .pinned], laidTests := true, laidLooks := .later }
def GroupApartCardSaid : Prop := Claim7.holds Tryd.pinned (.plain (OpenSpec.ofChange groupApartSpec)) groupApartCard

/-- THE TIED CARD OF 'logboomlaw15.GroupOwners'. -/
def groupOwnersCard : Claim7 := { stood := { row := groupOwnersRow, standIns := [], harness := (true, "d76df2542a0b3a85d1b7a1c825d93af442099d820150f378e65660b3cecf7b88"), looks := false }, kinds := [], alts := [], laidByText := true, laidKinds := [.data, .pinned], laidTests := true, laidLooks := .later }
def GroupOwnersCardSaid : Prop := Claim7.holds Tryd.pinned (.plain (OpenSpec.ofChange groupOwnersSpec)) groupOwnersCard

/-- THE TIED CARD OF 'logboomlaw15.GroupRules'. -/
def groupRulesCard : Claim7 := { stood := { row := groupRulesRow, standIns := [], harness := (true, "d76df2542a0b3a85d1b7a1c825d93af442099d820150f378e65660b3cecf7b88"), looks := false }, kinds := [], alts := [], laidByText := true, laidKinds := [.data, .pinned], laidTests := true, laidLooks := .later }
def GroupRulesCardSaid : Prop := Claim7.holds Tryd.pinned (.plain (OpenSpec.ofChange groupRulesSpec)) groupRulesCard

/-- THE TIED CARD OF 'logboomlaw15.GroupPlays'. -/
def groupPlaysCard : Claim7 := { stood := { row := groupPlaysRow, standIns := [], harness := (true, "d76df2542a0b3a85d1b7a1c825d93af442099d820150f378e65660b3cecf7b88"), looks := false }, kinds := [], alts := [], laidByText := true, laidKinds := [.data, .pinned], laidTests := true, laidLooks := .later }
def GroupPlaysCardSaid : Prop := Claim7.holds Tryd.pinned (.plain (OpenSpec.ofChange groupPlaysSpec)) groupPlaysCard

/-- THE SECOND FORM's CARD OF 'logboomlaw15.GroupAssigns'. -/
def groupAssignsUptoCard : Claim7 := { stood := { row := groupAssignsUptoRow, standIns := [], harness := (true, "d76df2542a0b3a85d1b7a1c825d93af442099d820150f378e65660b3cecf7b88"), looks := false }, kinds := [], alts := [], laidByText := true, laidKinds := [.data, .pinned], laidTests := true, laidLooks := .later }
def GroupAssignsUptoCardSaid : Prop := Claim7.holds Tryd.pinned (.plain (OpenSpec.upto groupAssignsSpec)) groupAssignsUptoCard

/-- THE SECOND FORM's CARD OF 'logboomlaw15.GroupOnce'. -/
def groupOnceUptoCard : Claim7 := { stood := { row := groupOnceUptoRow, standIns := [], harness := (true, "d76df2542a0b3a85d1b7a1c825d93af442099d820150f378e65660b3cecf7b88"), looks := false }, kinds := [], alts := [], laidByText := true, laidKinds := [.data, .pinned], laidTests := true, laidLooks := .later }
def GroupOnceUptoCardSaid : Prop := Claim7.holds Tryd.pinned (.plain (OpenSpec.upto groupOnceSpec)) groupOnceUptoCard

/-- THE SECOND FORM's CARD OF 'logboomlaw15.GroupApart'. -/
def groupApartUptoCard : Claim7 := { stood := { row := groupApartUptoRow, standIns := [], harness := (true, "d76df2542a0b3a85d1b7a1c825d93af442099d820150f378e65660b3cecf7b88"), looks := false }, kinds := [], alts := [], laidByText := true, laidKinds := [.data, .pinned], laidTests := true, laidLooks := .later }
def GroupApartUptoCardSaid : Prop := Claim7.holds Tryd.pinned (.plain (OpenSpec.upto groupApartSpec)) groupApartUptoCard

/-- THE SECOND FORM's CARD OF 'logboomlaw15.GroupOwners'. -/
def groupOwnersUptoCard : Claim7 := { stood := { row := groupOwnersUptoRow, standIns := [], harness := (true, "d76df2542a0b3a85d1b7a1c825d93af442099d820150f378e65660b3cecf7b88"), looks := false }, kinds := [], alts := [], laidByText := true, laidKinds := [.data, .pinned], laidTests := true, laidLooks := .later }
def GroupOwnersUptoCardSaid : Prop := Claim7.holds Tryd.pinned (.plain (OpenSpec.upto groupOwnersSpec)) groupOwnersUptoCard

/-- THE SECOND FORM's CARD OF 'logboomlaw15.GroupRules'. -/
def groupRulesUptoCard : Claim7 := { stood := { row := groupRulesUptoRow, standIns := [], harness := (true, "d76df2542a0b3a85d1b7a1c825d93af442099d820150f378e65660b3cecf7b88"), looks := false }, kinds := [], alts := [], laidByText := true, laidKinds := [.data, .pinned], laidTests := true, laidLooks := .later }
def GroupRulesUptoCardSaid : Prop := Claim7.holds Tryd.pinned (.plain (OpenSpec.upto groupRulesSpec)) groupRulesUptoCard

/-- THE SECOND FORM's CARD OF 'logboomlaw15.GroupPlays'. -/
def groupPlaysUptoCard : Claim7 := { stood := { row := groupPlaysUptoRow, standIns := [], harness := (true, "d76df2542a0b3a85d1b7a1c825d93af442099d820150f378e65660b3cecf7b88"), looks := false }, kinds := [], alts := [], laidByText := true, laidKinds := [.data, .pinned], laidTests := true, laidLooks := .later }
def GroupPlaysUptoCardSaid : Prop := Claim7.holds Tryd.pinned (.plain (OpenSpec.upto groupPlaysSpec)) groupPlaysUptoCard
end Rows
end Go.Proofs.YtcbobncipnjbjaaDoor
