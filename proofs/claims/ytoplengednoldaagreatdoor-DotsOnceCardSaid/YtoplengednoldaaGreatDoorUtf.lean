/- The walks of package utf. -/
import Derived.Test.YtoplengednoldaaGreatDoorProg
import Derived.Test.YtoplengednoldaaGreatDoorAux2
import Derived.Test.YtoplengednoldaaGreatDoorMem
import Derived.Test.YtoplengednoldaaGreatDoorOwn
import Derived.Test.YtoplengednoldaaGreatDoorUtfDef
import Derived.Deep.QuietTactic
import Derived.BigQuiet
namespace Go.Proofs.YtoplengednoldaaGreatDoor
set_option linter.unusedVariables false
set_option linter.unusedSimpArgs false
end Go.Proofs.YtoplengednoldaaGreatDoor
