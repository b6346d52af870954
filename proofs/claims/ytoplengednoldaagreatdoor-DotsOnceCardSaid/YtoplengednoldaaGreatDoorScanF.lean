/- Pieces of a text as lists. -/
import Derived.Test.YtoplengednoldaaGreatDoorScanE
namespace Go.Proofs.YtoplengednoldaaGreatDoor
set_option linter.unusedVariables false
set_option linter.unusedSimpArgs false
open Go.RowKit
theorem ext_cut (s : ByteArray) (a b : Nat) : s.extract a b = mkS (cutL s.data.toList a b) := by
  apply bytes_ext
  rw [ext_bytes]; rfl
theorem mk_app (a b : List UInt8) : mkS a ++ mkS b = mkS (a ++ b) := by
  apply bytes_ext
  show (mkS a ++ mkS b).data.toList = a ++ b
  rw [ByteArray.data_append]; simp [mkS]
end Go.Proofs.YtoplengednoldaaGreatDoor
