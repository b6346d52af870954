/- The walks of package scan: numbers, scalars, signs behind backslashes. -/
import Derived.Test.YtjffagffjcbolaaScanB
namespace Go.Proofs.Ytjffagffjcbolaa
set_option linter.unusedVariables false
set_option linter.unusedSimpArgs false
open Go.RowKit
theorem numS_eq (l : List UInt8) (a : Nat) (no : Bool) : numS l a no = someS l digB (takeA l a no 45) no := by
  cases no
  · rfl
  · simp [numS, someS, takeA, isB, pkB]
theorem ext_bytes (s : ByteArray) (a b : Nat) : (s.extract a b).data.toList = (s.data.toList.drop a).take (b - a) := by
  rw [ByteArray.data_extract, Array.toList_extract, List.extract_eq_take_drop]
end Go.Proofs.Ytjffagffjcbolaa
