/- What the laws of chapter 5 are given, as the walks want it; a start at which the listed variables are laid. -/
import Derived.Test.YtokceblmbmajgaaDoorRows
import Derived.Test.YtokceblmbmajgaaDoorS8
import Derived.Test.YtokceblmbmajgaaDoorHlRow
import Derived.LaidMore
import Derived.OpenShut
import Derived.Lay
import Derived.SevenTiedAt
import Derived.Test.YtokceblmbmajgaaDoorTie
import Derived.Test.YtokceblmbmajgaaDoorCards
import Derived.Stop.Joined
namespace Go.Proofs.YtokceblmbmajgaaDoor
open Go Go.HL Go.RowKit Go.ChangeShapes Go.WideShapes Go.ChangeAt
set_option maxRecDepth 100000

theorem Tryd.own : ownKnob Tryd.prog.godebug = none := by kernel_rfl
theorem Tryd.laidOut : laidOutB Tryd.prog = true := by kernel_rfl
theorem u3 : Tryd.prog.underlying 3 = some (.int .i64) := by kernel_rfl
theorem u22s : Tryd.prog.underlying 22 = some (.slice 3) := by kernel_rfl
/-- What the rows list: Go's own tables. -/
def laidL : List (String × DataW Unit) := [("unicode/utf8.acceptRanges", Rows.laid_unicode_utf8_acceptRanges), ("unicode/utf8.first", Rows.laid_unicode_utf8_first)]
/-- The zero heap with the tables laid meets the condition. -/
theorem laid_met (os : Os) (args : Array Value) : laidMetH Tryd.prog laidL ((World.laidAll Tryd.prog os laidL).forCall (fun _ _ => 0) ⟨#[], args, []⟩).memory := by
  rw [MakeChecks.laidMetH_plain _ _ _ (by kernel_rfl)]
  exact laidMet_laidAll _ (by kernel_rfl) (by kernel_rfl)
end Go.Proofs.YtokceblmbmajgaaDoor
