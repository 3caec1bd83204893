/-
  DERIVED. GIVEN WITH THE SEED: THE CARDS: each row of YtmofinghoacobaaGreatDoorRows.lean that lists a variable, with what it lists TIED to the program's text (the seventh form; the later family's looks); each row that meets fmt, with fmt's text TOLD by the authors' own Lean function (tested against real Go, not proved from fmt's source: count such statements apart). THE CARD IS WHAT COUNTS. Prove the row's statement (the work); the ties are given (YtmofinghoacobaaGreatDoorTie.lean); close each card by the builder's one call (the guide's Derived/Test/ToyasCard.lean, 'card_holds'). Laid BY PROGRAM, IN A SANDBOX (cutbox-door.mjs). By AI agents, Wed Nov 11 2026. No macro, syntax, notation, axiom, sorry.
-/
import Derived.Test.YtmofinghoacobaaGreatDoorRows
import GoSem.ClaimSeven
namespace Go.Proofs.YtmofinghoacobaaGreatDoor
namespace Rows

/-- THE TIED CARD OF 'logboomlaw12.MetaPids'. -/
def metaPidsCard : Claim7 := { stood := { row := metaPidsRow, standIns := [], harness := (true, "75d6b39d19b5f395b07ec195806631f564e4f3addcaa47de70e1d40d262756aa"), looks := true }, kinds := [], alts := [], laidByText := true, laidKinds := [.data, .pinned], laidTests := true, laidLooks := .later }
def MetaPidsCardSaid : Prop := Claim7.holds Tryz.pinned (.plain (OpenSpec.ofChange metaPidsSpec)) metaPidsCard

/-- THE TIED CARD OF 'logboomlaw12.MetaTopics'. -/
def metaTopicsCard : Claim7 := { stood := { row := metaTopicsRow, standIns := [], harness := (true, "75d6b39d19b5f395b07ec195806631f564e4f3addcaa47de70e1d40d262756aa"), looks := true }, kinds := [], alts := [], laidByText := true, laidKinds := [.data, .pinned], laidTests := true, laidLooks := .later }
def MetaTopicsCardSaid : Prop := Claim7.holds Tryz.pinned (.plain (OpenSpec.ofChange metaTopicsSpec)) metaTopicsCard

/-- THE TIED CARD OF 'logboomlaw12.MetaRules'. -/
def metaRulesCard : Claim7 := { stood := { row := metaRulesRow, standIns := [], harness := (true, "75d6b39d19b5f395b07ec195806631f564e4f3addcaa47de70e1d40d262756aa"), looks := true }, kinds := [], alts := [], laidByText := true, laidKinds := [.data, .pinned], laidTests := true, laidLooks := .later }
def MetaRulesCardSaid : Prop := Claim7.holds Tryz.pinned (.plain (OpenSpec.ofChange metaRulesSpec)) metaRulesCard

/-- THE TIED CARD OF 'logboomlaw12.MetaBack'. -/
def metaBackCard : Claim7 := { stood := { row := metaBackRow, standIns := [], harness := (true, "75d6b39d19b5f395b07ec195806631f564e4f3addcaa47de70e1d40d262756aa"), looks := true }, kinds := [], alts := [], laidByText := true, laidKinds := [.data, .pinned], laidTests := true, laidLooks := .later }
def MetaBackCardSaid : Prop := Claim7.holds Tryz.pinned (.plain (OpenSpec.ofChange metaBackSpec)) metaBackCard

/-- THE TIED CARD OF 'logboomlaw12.MetaLoads'. -/
def metaLoadsCard : Claim7 := { stood := { row := metaLoadsRow, standIns := [], harness := (true, "75d6b39d19b5f395b07ec195806631f564e4f3addcaa47de70e1d40d262756aa"), looks := true }, kinds := [], alts := [], laidByText := true, laidKinds := [.data, .pinned], laidTests := true, laidLooks := .later }
def MetaLoadsCardSaid : Prop := Claim7.holds Tryz.pinned (.plain (OpenSpec.ofChange metaLoadsSpec)) metaLoadsCard

/-- THE TIED CARD OF 'logboomlaw12.MetaPlays'. -/
def metaPlaysCard : Claim7 := { stood := { row := metaPlaysRow, standIns := [], harness := (true, "75d6b39d19b5f395b07ec195806631f564e4f3addcaa47de70e1d40d262756aa"), looks := true }, kinds := [], alts := [], laidByText := true, laidKinds := [.data, .pinned], laidTests := true, laidLooks := .later }
def MetaPlaysCardSaid : Prop := Claim7.holds Tryz.pinned (.plain (OpenSpec.ofChange metaPlaysSpec)) metaPlaysCard

/-- THE SECOND FORM's CARD OF 'logboomlaw12.MetaPids'. -/
def metaPidsUptoCard : Claim7 := { stood := { row := metaPidsUptoRow, standIns := [], harness := (true, "75d6b39d19b5f395b07ec195806631f564e4f3addcaa47de70e1d40d262756aa"), looks := true }, kinds := [], alts := [], laidByText := true, laidKinds := [.data, .pinned], laidTests := true, laidLooks := .later }
def MetaPidsUptoCardSaid : Prop := Claim7.holds Tryz.pinned (.plain (OpenSpec.upto metaPidsSpec)) metaPidsUptoCard

/-- THE SECOND FORM's CARD OF 'logboomlaw12.MetaTopics'. -/
def metaTopicsUptoCard : Claim7 := { stood := { row := metaTopicsUptoRow, standIns := [], harness := (true, "75d6b39d19b5f395b07ec195806631f564e4f3addcaa47de70e1d40d262756aa"), looks := true }, kinds := [], alts := [], laidByText := true, laidKinds := [.data, .pinned], laidTests := true, laidLooks := .later }
def MetaTopicsUptoCardSaid : Prop := Claim7.holds Tryz.pinned (.plain (OpenSpec.upto metaTopicsSpec)) metaTopicsUptoCard

/-- THE SECOND FORM's CARD OF 'logboomlaw12.MetaRules'. -/
def metaRulesUptoCard : Claim7 := { stood := { row := metaRulesUptoRow, standIns := [], harness := (true, "75d6b39d19b5f395b07ec195806631f564e4f3addcaa47de70e1d40d262756aa"), looks := true }, kinds := [], alts := [], laidByText := true, laidKinds := [.data, .pinned], laidTests := true, laidLooks := .later }
def MetaRulesUptoCardSaid : Prop := Claim7.holds Tryz.pinned (.plain (OpenSpec.upto metaRulesSpec)) metaRulesUptoCard

/-- THE SECOND FORM's CARD OF 'logboomlaw12.MetaBack'. -/
def metaBackUptoCard : Claim7 := { stood := { row := metaBackUptoRow, standIns := [], harness := (true, "75d6b39d19b5f395b07ec195806631f564e4f3addcaa47de70e1d40d262756aa"), looks := true }, kinds := [], alts := [], laidByText := true, laidKinds := [.data, .pinned], laidTests := true, laidLooks := .later }
def MetaBackUptoCardSaid : Prop := Claim7.holds Tryz.pinned (.plain (OpenSpec.upto metaBackSpec)) metaBackUptoCard

/-- THE SECOND FORM's CARD OF 'logboomlaw12.MetaLoads'. -/
def metaLoadsUptoCard : Claim7 := { stood := { row := metaLoadsUptoRow, standIns := [], harness := (true, "75d6b39d19b5f395b07ec195806631f564e4f3addcaa47de70e1d40d262756aa"), looks := true }, kinds := [], alts := [], laidByText := true, laidKinds := [.data, .pinned], laidTests := true, laidLooks := .later }
def MetaLoadsUptoCardSaid : Prop := Claim7.holds Tryz.pinned (.plain (OpenSpec.upto metaLoadsSpec)) metaLoadsUptoCard

/-- THE SECOND FORM's CARD OF 'logboomlaw12.MetaPlays'. -/
def metaPlaysUptoCard : Claim7 := { stood := { row := metaPlaysUptoRow, standIns := [], harness := (true, "75d6b39d19b5f395b07ec195806631f564e4f3addcaa47de70e1d40d262756aa"), looks := true }, kinds := [], alts := [], laidByText := true, laidKinds := [.data, .pinned], laidTests := true, laidLooks := .later }
def MetaPlaysUptoCardSaid : Prop := Claim7.holds Tryz.pinned (.plain (OpenSpec.upto metaPlaysSpec)) metaPlaysUptoCard
end Rows
end Go.Proofs.YtmofinghoacobaaGreatDoor
