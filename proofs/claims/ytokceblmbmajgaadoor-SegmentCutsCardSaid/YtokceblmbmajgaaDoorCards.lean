/-
  DERIVED. GIVEN WITH THE SEED: THE CARDS: each row of YtokceblmbmajgaaDoorRows.lean that lists a variable, with what it lists TIED to the program's text (the seventh form; the later family's looks); each row that meets fmt, with fmt's text TOLD by the authors' own Lean function (tested against real Go, not proved from fmt's source: count such statements apart). THE CARD IS WHAT COUNTS. Prove the row's statement (the work); the ties are given (YtokceblmbmajgaaDoorTie.lean); close each card by the builder's one call (the guide's Derived/Test/ToyasCard.lean, 'card_holds'). Laid BY PROGRAM, IN A SANDBOX (cutbox-door.mjs). By AI agents, Wed Nov 11 2026. No macro, syntax, notation, axiom, sorry.
-/
import Derived.Test.YtokceblmbmajgaaDoorRows
import GoSem.ClaimSeven
namespace Go.Proofs.YtokceblmbmajgaaDoor
namespace Rows

/-- THE TIED CARD OF 'logboomlaw5.SegmentSurvives'. -/
def segmentSurvivesCard : Claim7 := { stood := { row := segmentSurvivesRow, standIns := [], harness := (true, "394cd76be3ec16bbd14d7b0b1698d1c5f6a83d67681075ad6f8de55f43ef81e7"), looks := true }, kinds := [], alts := [], laidByText := true, laidKinds := [.data, .pinned], laidTests := true, laidLooks := .later }
def SegmentSurvivesCardSaid : Prop := Claim7.holds Tryd.pinned (.plain (OpenSpec.ofChange segmentSurvivesSpec)) segmentSurvivesCard

/-- THE TIED CARD OF 'logboomlaw5.SegmentReads'. -/
def segmentReadsCard : Claim7 := { stood := { row := segmentReadsRow, standIns := [], harness := (true, "394cd76be3ec16bbd14d7b0b1698d1c5f6a83d67681075ad6f8de55f43ef81e7"), looks := true }, kinds := [], alts := [], laidByText := true, laidKinds := [.data, .pinned], laidTests := true, laidLooks := .later }
def SegmentReadsCardSaid : Prop := Claim7.holds Tryd.pinned (.plain (OpenSpec.ofChange segmentReadsSpec)) segmentReadsCard

/-- THE TIED CARD OF 'logboomlaw5.SegmentIndex'. -/
def segmentIndexCard : Claim7 := { stood := { row := segmentIndexRow, standIns := [], harness := (true, "394cd76be3ec16bbd14d7b0b1698d1c5f6a83d67681075ad6f8de55f43ef81e7"), looks := true }, kinds := [], alts := [], laidByText := true, laidKinds := [.data, .pinned], laidTests := true, laidLooks := .later }
def SegmentIndexCardSaid : Prop := Claim7.holds Tryd.pinned (.plain (OpenSpec.ofChange segmentIndexSpec)) segmentIndexCard

/-- THE TIED CARD OF 'logboomlaw5.SegmentFull'. -/
def segmentFullCard : Claim7 := { stood := { row := segmentFullRow, standIns := [], harness := (true, "394cd76be3ec16bbd14d7b0b1698d1c5f6a83d67681075ad6f8de55f43ef81e7"), looks := true }, kinds := [], alts := [], laidByText := true, laidKinds := [.data, .pinned], laidTests := true, laidLooks := .later }
def SegmentFullCardSaid : Prop := Claim7.holds Tryd.pinned (.plain (OpenSpec.ofChange segmentFullSpec)) segmentFullCard

/-- THE TIED CARD OF 'logboomlaw5.SegmentCuts'. -/
def segmentCutsCard : Claim7 := { stood := { row := segmentCutsRow, standIns := [], harness := (true, "394cd76be3ec16bbd14d7b0b1698d1c5f6a83d67681075ad6f8de55f43ef81e7"), looks := true }, kinds := [], alts := [], laidByText := true, laidKinds := [.data, .pinned], laidTests := true, laidLooks := .later }
def SegmentCutsCardSaid : Prop := Claim7.holds Tryd.pinned (.plain (OpenSpec.ofChange segmentCutsSpec)) segmentCutsCard

/-- THE SECOND FORM's CARD OF 'logboomlaw5.SegmentSurvives'. -/
def segmentSurvivesUptoCard : Claim7 := { stood := { row := segmentSurvivesUptoRow, standIns := [], harness := (true, "394cd76be3ec16bbd14d7b0b1698d1c5f6a83d67681075ad6f8de55f43ef81e7"), looks := true }, kinds := [], alts := [], laidByText := true, laidKinds := [.data, .pinned], laidTests := true, laidLooks := .later }
def SegmentSurvivesUptoCardSaid : Prop := Claim7.holds Tryd.pinned (.plain (OpenSpec.upto segmentSurvivesSpec)) segmentSurvivesUptoCard

/-- THE SECOND FORM's CARD OF 'logboomlaw5.SegmentReads'. -/
def segmentReadsUptoCard : Claim7 := { stood := { row := segmentReadsUptoRow, standIns := [], harness := (true, "394cd76be3ec16bbd14d7b0b1698d1c5f6a83d67681075ad6f8de55f43ef81e7"), looks := true }, kinds := [], alts := [], laidByText := true, laidKinds := [.data, .pinned], laidTests := true, laidLooks := .later }
def SegmentReadsUptoCardSaid : Prop := Claim7.holds Tryd.pinned (.plain (OpenSpec.upto segmentReadsSpec)) segmentReadsUptoCard

/-- THE SECOND FORM's CARD OF 'logboomlaw5.SegmentIndex'. -/
def segmentIndexUptoCard : Claim7 := { stood := { row := segmentIndexUptoRow, standIns := [], harness := (true, "394cd76be3ec16bbd14d7b0b1698d1c5f6a83d67681075ad6f8de55f43ef81e7"), looks := true }, kinds := [], alts := [], laidByText := true, laidKinds := [.data, .pinned], laidTests := true, laidLooks := .later }
def SegmentIndexUptoCardSaid : Prop := Claim7.holds Tryd.pinned (.plain (OpenSpec.upto segmentIndexSpec)) segmentIndexUptoCard

/-- THE SECOND FORM's CARD OF 'logboomlaw5.SegmentFull'. -/
def segmentFullUptoCard : Claim7 := { stood := { row := segmentFullUptoRow, standIns := [], harness := (true, "394cd76be3ec16bbd14d7b0b1698d1c5f6a83d67681075ad6f8de55f43ef81e7"), looks := true }, kinds := [], alts := [], laidByText := true, laidKinds := [.data, .pinned], laidTests := true, laidLooks := .later }
def SegmentFullUptoCardSaid : Prop := Claim7.holds Tryd.pinned (.plain (OpenSpec.upto segmentFullSpec)) segmentFullUptoCard

/-- THE SECOND FORM's CARD OF 'logboomlaw5.SegmentCuts'. -/
def segmentCutsUptoCard : Claim7 := { stood := { row := segmentCutsUptoRow, standIns := [], harness := (true, "394cd76be3ec16bbd14d7b0b1698d1c5f6a83d67681075ad6f8de55f43ef81e7"), looks := true }, kinds := [], alts := [], laidByText := true, laidKinds := [.data, .pinned], laidTests := true, laidLooks := .later }
def SegmentCutsUptoCardSaid : Prop := Claim7.holds Tryd.pinned (.plain (OpenSpec.upto segmentCutsSpec)) segmentCutsUptoCard
end Rows
end Go.Proofs.YtokceblmbmajgaaDoor
