/- The walks of package utf. -/
import Derived.Test.YtjffagffjcbolaaProg
import Derived.Test.YtjffagffjcbolaaAux2
import Derived.Test.YtjffagffjcbolaaMem
import Derived.Test.YtjffagffjcbolaaOwn
import Derived.Test.YtjffagffjcbolaaUtfDef
import Derived.Deep.QuietTactic
import Derived.BigQuiet
namespace Go.Proofs.Ytjffagffjcbolaa
set_option linter.unusedVariables false
set_option linter.unusedSimpArgs false
end Go.Proofs.Ytjffagffjcbolaa
