/- The walks of package utf. -/
import Derived.Test.YtpknjngjkdnpiaaGreatDoorProg
import Derived.Test.YtpknjngjkdnpiaaGreatDoorMgA
import Derived.Test.YtpknjngjkdnpiaaGreatDoorMgB
import Derived.Deep.QuietTactic
import Derived.BigQuiet
namespace Go.Proofs.YtpknjngjkdnpiaaGreatDoor
set_option linter.unusedVariables false
set_option linter.unusedSimpArgs false
end Go.Proofs.YtpknjngjkdnpiaaGreatDoor
