/- strings.Builder's writing methods at this program, walked by hand (turned from the library's walks over any program). -/
import Derived.Test.YtpknjngjkdnpiaaGreatDoorProg
import Derived.Test.YtpknjngjkdnpiaaGreatDoorMgA
import Derived.Lib.Builder
import Derived.Lib.AppendStr
import Derived.Lib.Strings
import Derived.Lib.Slices
import Derived.Lib.Walk
import Derived.WalkKit
import Derived.Laws.Externs
namespace Go.Proofs.YtpknjngjkdnpiaaGreatDoor
set_option linter.unusedVariables false
set_option linter.unusedSimpArgs false
end Go.Proofs.YtpknjngjkdnpiaaGreatDoor
