import Derived.Test.YthldclmeojkboaaDoorHlRow
import Derived.Shelf.SlIterI.Nil
import Derived.Shelf.SlIter.Nil
namespace Go.HL
open Go Go.RowKit
set_option linter.unusedVariables false
section
variable {κ : Type}
end
end Go.HL
