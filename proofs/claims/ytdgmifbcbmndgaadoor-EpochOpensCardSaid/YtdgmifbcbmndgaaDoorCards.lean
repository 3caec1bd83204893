/-
  DERIVED. GIVEN WITH THE SEED: THE CARDS: each row of YtdgmifbcbmndgaaDoorRows.lean that lists a variable, with what it lists TIED to the program's text (the seventh form; the later family's looks); each row that meets fmt, with fmt's text TOLD by the authors' own Lean function (tested against real Go, not proved from fmt's source: count such statements apart). THE CARD IS WHAT COUNTS. Prove the row's statement (the work); the ties are given (YtdgmifbcbmndgaaDoorTie.lean); close each card by the builder's one call (the guide's Derived/Test/ToyasCard.lean, 'card_holds'). Laid BY PROGRAM, IN A SANDBOX (cutbox-door.mjs). By AI agents, Wed Nov 11 2026. No macro, syntax, notation, axiom, sorry.
-/
import Derived.Test.YtdgmifbcbmndgaaDoorRows
import GoSem.ClaimSeven
namespace Go.Proofs.YtdgmifbcbmndgaaDoor
namespace Rows

/-- THE TIED CARD OF 'logboomlaw7.EpochOpens'. -/
def epochOpensCard : Claim7 := { stood := { row := epochOpensRow, standIns := [], harness := (true, "60c7924d5bbd2c002fccbe9295b4aaad14fc235e75b5ee665e5e92c1acdb2c82"), looks := false }, kinds := [], alts := [], laidByText := true, laidKinds := [.data, .pinned], laidTests := true, laidLooks := .later }
def EpochOpensCardSaid : Prop := Claim7.holds Tryd.pinned (.plain (OpenSpec.ofChange epochOpensSpec)) epochOpensCard

/-- THE TIED CARD OF 'logboomlaw7.EpochMany'. -/
def epochManyCard : Claim7 := { stood := { row := epochManyRow, standIns := [], harness := (true, "60c7924d5bbd2c002fccbe9295b4aaad14fc235e75b5ee665e5e92c1acdb2c82"), looks := false }, kinds := [], alts := [], laidByText := true, laidKinds := [.data, .pinned], laidTests := true, laidLooks := .later }
def EpochManyCardSaid : Prop := Claim7.holds Tryd.pinned (.plain (OpenSpec.ofChange epochManySpec)) epochManyCard

/-- THE TIED CARD OF 'logboomlaw7.EpochRises'. -/
def epochRisesCard : Claim7 := { stood := { row := epochRisesRow, standIns := [], harness := (true, "60c7924d5bbd2c002fccbe9295b4aaad14fc235e75b5ee665e5e92c1acdb2c82"), looks := false }, kinds := [], alts := [], laidByText := true, laidKinds := [.data, .pinned], laidTests := true, laidLooks := .later }
def EpochRisesCardSaid : Prop := Claim7.holds Tryd.pinned (.plain (OpenSpec.ofChange epochRisesSpec)) epochRisesCard

/-- THE SECOND FORM's CARD OF 'logboomlaw7.EpochOpens'. -/
def epochOpensUptoCard : Claim7 := { stood := { row := epochOpensUptoRow, standIns := [], harness := (true, "60c7924d5bbd2c002fccbe9295b4aaad14fc235e75b5ee665e5e92c1acdb2c82"), looks := false }, kinds := [], alts := [], laidByText := true, laidKinds := [.data, .pinned], laidTests := true, laidLooks := .later }
def EpochOpensUptoCardSaid : Prop := Claim7.holds Tryd.pinned (.plain (OpenSpec.upto epochOpensSpec)) epochOpensUptoCard

/-- THE SECOND FORM's CARD OF 'logboomlaw7.EpochMany'. -/
def epochManyUptoCard : Claim7 := { stood := { row := epochManyUptoRow, standIns := [], harness := (true, "60c7924d5bbd2c002fccbe9295b4aaad14fc235e75b5ee665e5e92c1acdb2c82"), looks := false }, kinds := [], alts := [], laidByText := true, laidKinds := [.data, .pinned], laidTests := true, laidLooks := .later }
def EpochManyUptoCardSaid : Prop := Claim7.holds Tryd.pinned (.plain (OpenSpec.upto epochManySpec)) epochManyUptoCard

/-- THE SECOND FORM's CARD OF 'logboomlaw7.EpochRises'. -/
def epochRisesUptoCard : Claim7 := { stood := { row := epochRisesUptoRow, standIns := [], harness := (true, "60c7924d5bbd2c002fccbe9295b4aaad14fc235e75b5ee665e5e92c1acdb2c82"), looks := false }, kinds := [], alts := [], laidByText := true, laidKinds := [.data, .pinned], laidTests := true, laidLooks := .later }
def EpochRisesUptoCardSaid : Prop := Claim7.holds Tryd.pinned (.plain (OpenSpec.upto epochRisesSpec)) epochRisesUptoCard
end Rows
end Go.Proofs.YtdgmifbcbmndgaaDoor
