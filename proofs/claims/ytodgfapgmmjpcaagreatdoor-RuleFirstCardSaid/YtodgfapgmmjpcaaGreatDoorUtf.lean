/- The walks of package utf. -/
import Derived.Test.YtodgfapgmmjpcaaGreatDoorProg
import Derived.Test.YtodgfapgmmjpcaaGreatDoorAux2
import Derived.Test.YtodgfapgmmjpcaaGreatDoorMem
import Derived.Test.YtodgfapgmmjpcaaGreatDoorOwn
import Derived.Test.YtodgfapgmmjpcaaGreatDoorUtfDef
import Derived.Deep.QuietTactic
import Derived.BigQuiet
namespace Go.Proofs.YtodgfapgmmjpcaaGreatDoor
set_option linter.unusedVariables false
set_option linter.unusedSimpArgs false
end Go.Proofs.YtodgfapgmmjpcaaGreatDoor
