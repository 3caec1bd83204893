/-
  DERIVED. GIVEN WITH THE SEED: THE CARDS: each row of YtldaflbdldepnaaDoorRows.lean that lists a variable, with what it lists TIED to the program's text (the seventh form; the later family's looks); each row that meets fmt, with fmt's text TOLD by the authors' own Lean function (tested against real Go, not proved from fmt's source: count such statements apart). THE CARD IS WHAT COUNTS. Prove the row's statement (the work); the ties are given (YtldaflbdldepnaaDoorTie.lean); close each card by the builder's one call (the guide's Derived/Test/ToyasCard.lean, 'card_holds'). Laid BY PROGRAM, IN A SANDBOX (cutbox-door.mjs). By AI agents, Wed Nov 11 2026. No macro, syntax, notation, axiom, sorry.
-/
import Derived.Test.YtldaflbdldepnaaDoorRows
import GoSem.ClaimSeven
namespace Go.Proofs.YtldaflbdldepnaaDoor
namespace Rows

/-- THE TIED CARD OF 'logboomlaw1.DiskSafe'. -/
def diskSafeCard : Claim7 := { stood := { row := diskSafeRow, standIns := [], harness := (true, "0b74d40a3371ea72fd8cb80aea3515990816265bbbe16ac55f31f7998c091204"), looks := true }, kinds := [], alts := [], laidByText := true, laidKinds := [.data, .pinned], laidTests := true, laidLooks := .later }
def DiskSafeCardSaid : Prop := Claim7.holds Tryd.pinned (.plain (OpenSpec.ofChange diskSafeSpec)) diskSafeCard

/-- THE TIED CARD OF 'logboomlaw1.DiskWhole'. -/
def diskWholeCard : Claim7 := { stood := { row := diskWholeRow, standIns := [], harness := (true, "0b74d40a3371ea72fd8cb80aea3515990816265bbbe16ac55f31f7998c091204"), looks := true }, kinds := [], alts := [], laidByText := true, laidKinds := [.data, .pinned], laidTests := true, laidLooks := .later }
def DiskWholeCardSaid : Prop := Claim7.holds Tryd.pinned (.plain (OpenSpec.ofChange diskWholeSpec)) diskWholeCard

/-- THE TIED CARD OF 'logboomlaw1.DiskPlays'. -/
def diskPlaysCard : Claim7 := { stood := { row := diskPlaysRow, standIns := [], harness := (true, "0b74d40a3371ea72fd8cb80aea3515990816265bbbe16ac55f31f7998c091204"), looks := true }, kinds := [], alts := [], laidByText := true, laidKinds := [.data, .pinned], laidTests := true, laidLooks := .later }
def DiskPlaysCardSaid : Prop := Claim7.holds Tryd.pinned (.plain (OpenSpec.ofChange diskPlaysSpec)) diskPlaysCard

/-- THE TIED CARD OF 'logboomlaw1.DiskRoom'. -/
def diskRoomCard : Claim7 := { stood := { row := diskRoomRow, standIns := [], harness := (true, "0b74d40a3371ea72fd8cb80aea3515990816265bbbe16ac55f31f7998c091204"), looks := true }, kinds := [], alts := [], laidByText := true, laidKinds := [.data, .pinned], laidTests := true, laidLooks := .later }
def DiskRoomCardSaid : Prop := Claim7.holds Tryd.pinned (.plain (OpenSpec.ofChange diskRoomSpec)) diskRoomCard

/-- THE TIED CARD OF 'logboomlaw1.DiskErrs'. -/
def diskErrsCard : Claim7 := { stood := { row := diskErrsRow, standIns := [], harness := (true, "0b74d40a3371ea72fd8cb80aea3515990816265bbbe16ac55f31f7998c091204"), looks := true }, kinds := [], alts := [], laidByText := true, laidKinds := [.data, .pinned], laidTests := true, laidLooks := .later }
def DiskErrsCardSaid : Prop := Claim7.holds Tryd.pinned (.plain (OpenSpec.ofChange diskErrsSpec)) diskErrsCard

/-- THE TIED CARD OF 'logboomlaw1.DiskClones'. -/
def diskClonesCard : Claim7 := { stood := { row := diskClonesRow, standIns := [], harness := (true, "0b74d40a3371ea72fd8cb80aea3515990816265bbbe16ac55f31f7998c091204"), looks := true }, kinds := [], alts := [], laidByText := true, laidKinds := [.data, .pinned], laidTests := true, laidLooks := .later }
def DiskClonesCardSaid : Prop := Claim7.holds Tryd.pinned (.plain (OpenSpec.ofChange diskClonesSpec)) diskClonesCard

/-- THE TIED CARD OF 'logboomlaw1.DiskTwice'. -/
def diskTwiceCard : Claim7 := { stood := { row := diskTwiceRow, standIns := [], harness := (true, "0b74d40a3371ea72fd8cb80aea3515990816265bbbe16ac55f31f7998c091204"), looks := true }, kinds := [], alts := [], laidByText := true, laidKinds := [.data, .pinned], laidTests := true, laidLooks := .later }
def DiskTwiceCardSaid : Prop := Claim7.holds Tryd.pinned (.plain (OpenSpec.ofChange diskTwiceSpec)) diskTwiceCard

/-- THE SECOND FORM's CARD OF 'logboomlaw1.DiskSafe'. -/
def diskSafeUptoCard : Claim7 := { stood := { row := diskSafeUptoRow, standIns := [], harness := (true, "0b74d40a3371ea72fd8cb80aea3515990816265bbbe16ac55f31f7998c091204"), looks := true }, kinds := [], alts := [], laidByText := true, laidKinds := [.data, .pinned], laidTests := true, laidLooks := .later }
def DiskSafeUptoCardSaid : Prop := Claim7.holds Tryd.pinned (.plain (OpenSpec.upto diskSafeSpec)) diskSafeUptoCard

/-- THE SECOND FORM's CARD OF 'logboomlaw1.DiskWhole'. -/
def diskWholeUptoCard : Claim7 := { stood := { row := diskWholeUptoRow, standIns := [], harness := (true, "0b74d40a3371ea72fd8cb80aea3515990816265bbbe16ac55f31f7998c091204"), looks := true }, kinds := [], alts := [], laidByText := true, laidKinds := [.data, .pinned], laidTests := true, laidLooks := .later }
def DiskWholeUptoCardSaid : Prop := Claim7.holds Tryd.pinned (.plain (OpenSpec.upto diskWholeSpec)) diskWholeUptoCard

/-- THE SECOND FORM's CARD OF 'logboomlaw1.DiskPlays'. -/
def diskPlaysUptoCard : Claim7 := { stood := { row := diskPlaysUptoRow, standIns := [], harness := (true, "0b74d40a3371ea72fd8cb80aea3515990816265bbbe16ac55f31f7998c091204"), looks := true }, kinds := [], alts := [], laidByText := true, laidKinds := [.data, .pinned], laidTests := true, laidLooks := .later }
def DiskPlaysUptoCardSaid : Prop := Claim7.holds Tryd.pinned (.plain (OpenSpec.upto diskPlaysSpec)) diskPlaysUptoCard

/-- THE SECOND FORM's CARD OF 'logboomlaw1.DiskRoom'. -/
def diskRoomUptoCard : Claim7 := { stood := { row := diskRoomUptoRow, standIns := [], harness := (true, "0b74d40a3371ea72fd8cb80aea3515990816265bbbe16ac55f31f7998c091204"), looks := true }, kinds := [], alts := [], laidByText := true, laidKinds := [.data, .pinned], laidTests := true, laidLooks := .later }
def DiskRoomUptoCardSaid : Prop := Claim7.holds Tryd.pinned (.plain (OpenSpec.upto diskRoomSpec)) diskRoomUptoCard

/-- THE SECOND FORM's CARD OF 'logboomlaw1.DiskErrs'. -/
def diskErrsUptoCard : Claim7 := { stood := { row := diskErrsUptoRow, standIns := [], harness := (true, "0b74d40a3371ea72fd8cb80aea3515990816265bbbe16ac55f31f7998c091204"), looks := true }, kinds := [], alts := [], laidByText := true, laidKinds := [.data, .pinned], laidTests := true, laidLooks := .later }
def DiskErrsUptoCardSaid : Prop := Claim7.holds Tryd.pinned (.plain (OpenSpec.upto diskErrsSpec)) diskErrsUptoCard

/-- THE SECOND FORM's CARD OF 'logboomlaw1.DiskClones'. -/
def diskClonesUptoCard : Claim7 := { stood := { row := diskClonesUptoRow, standIns := [], harness := (true, "0b74d40a3371ea72fd8cb80aea3515990816265bbbe16ac55f31f7998c091204"), looks := true }, kinds := [], alts := [], laidByText := true, laidKinds := [.data, .pinned], laidTests := true, laidLooks := .later }
def DiskClonesUptoCardSaid : Prop := Claim7.holds Tryd.pinned (.plain (OpenSpec.upto diskClonesSpec)) diskClonesUptoCard

/-- THE SECOND FORM's CARD OF 'logboomlaw1.DiskTwice'. -/
def diskTwiceUptoCard : Claim7 := { stood := { row := diskTwiceUptoRow, standIns := [], harness := (true, "0b74d40a3371ea72fd8cb80aea3515990816265bbbe16ac55f31f7998c091204"), looks := true }, kinds := [], alts := [], laidByText := true, laidKinds := [.data, .pinned], laidTests := true, laidLooks := .later }
def DiskTwiceUptoCardSaid : Prop := Claim7.holds Tryd.pinned (.plain (OpenSpec.upto diskTwiceSpec)) diskTwiceUptoCard
end Rows
end Go.Proofs.YtldaflbdldepnaaDoor
