/- Classes of bytes (no program in sight). -/
import Derived.Test.YtjffagffjcbolaaScanDef
namespace Go.Proofs.Ytjffagffjcbolaa
set_option linter.unusedVariables false
set_option linter.unusedSimpArgs false
open Go.RowKit
def owLabel (c : Int) : Bool := letB c || (digB c || c == 95)
def owName (c : Int) : Bool := letB c || (digB c || (c == 95 || c == 58))
def smB (c : Int) : Bool := decide (97 ≤ c) && decide (c ≤ 122)
def stName (c : Int) : Bool := letB c || (digB c || (c == 95 || (c == 45 || c == 46)))
def stInk (c : Int) : Bool := decide (32 < c) && (decide (c < 127) && !(c == 124))
def stValue (c : Int) : Bool := stInk c && !(c == 44)
def dtNode (c : Int) : Bool := letB c || (digB c || (c == 95 || (c == 45 || c == 58)))
def tmInk (c : Int) : Bool := decide (32 < c) && (decide (c < 127) && (!(c == 59) && !(c == 44)))
def dtInk (c : Int) : Bool := decide (32 < c) && (decide (c < 127) && !(c == 59))
end Go.Proofs.Ytjffagffjcbolaa
