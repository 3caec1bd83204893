/-
  DERIVED. GIVEN WITH THE SEED: THE CARDS: each row of YthldclmeojkboaaDoorRows.lean that lists a variable, with what it lists TIED to the program's text (the seventh form; the later family's looks); each row that meets fmt, with fmt's text TOLD by the authors' own Lean function (tested against real Go, not proved from fmt's source: count such statements apart). THE CARD IS WHAT COUNTS. Prove the row's statement (the work); the ties are given (YthldclmeojkboaaDoorTie.lean); close each card by the builder's one call (the guide's Derived/Test/ToyasCard.lean, 'card_holds'). Laid BY PROGRAM, IN A SANDBOX (cutbox-door.mjs). By AI agents, Wed Nov 11 2026. No macro, syntax, notation, axiom, sorry.
-/
import Derived.Test.YthldclmeojkboaaDoorRows
import GoSem.ClaimSeven
namespace Go.Proofs.YthldclmeojkboaaDoor
namespace Rows

/-- THE TIED CARD OF 'logboomlaw10.RaftIgnores'. -/
def raftIgnoresCard : Claim7 := { stood := { row := raftIgnoresRow, standIns := [], harness := (true, "96b0e5f7de713d639c68a99fd797ffdc03c29f2c63deb3cef4cb6f3443bdb5d0"), looks := false }, kinds := [], alts := [], laidByText := true, laidKinds := [.data, .pinned], laidTests := true, laidLooks := .later }
def RaftIgnoresCardSaid : Prop := Claim7.holds Tryd.pinned (.plain (OpenSpec.ofChange raftIgnoresSpec)) raftIgnoresCard

/-- THE SECOND FORM's CARD OF 'logboomlaw10.RaftIgnores'. -/
def raftIgnoresUptoCard : Claim7 := { stood := { row := raftIgnoresUptoRow, standIns := [], harness := (true, "96b0e5f7de713d639c68a99fd797ffdc03c29f2c63deb3cef4cb6f3443bdb5d0"), looks := false }, kinds := [], alts := [], laidByText := true, laidKinds := [.data, .pinned], laidTests := true, laidLooks := .later }
def RaftIgnoresUptoCardSaid : Prop := Claim7.holds Tryd.pinned (.plain (OpenSpec.upto raftIgnoresSpec)) raftIgnoresUptoCard
end Rows
end Go.Proofs.YthldclmeojkboaaDoor
