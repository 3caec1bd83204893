/- Formulas of functions, printed by this session's vc.py; each is tied to the program by the kernel. -/
import Derived.Test.YtmofinghoacobaaGreatDoorProg
import Derived.KernelRfl
import Derived.Test.YtmofinghoacobaaGreatDoorHlFn
import Derived.Test.YtmofinghoacobaaGreatDoorV7
namespace Go.Proofs.YtmofinghoacobaaGreatDoor
open Go.HL
set_option maxRecDepth 100000
/-! function 15: (*logboom/meta.Image).Topics -/
/-! function 20: logboom/logboomlaw12.rises -/
/-! function 5: logboom/logboomlaw12.MetaRules -/
/-! function 4: logboom/logboomlaw12.MetaTopics -/
end Go.Proofs.YtmofinghoacobaaGreatDoor
