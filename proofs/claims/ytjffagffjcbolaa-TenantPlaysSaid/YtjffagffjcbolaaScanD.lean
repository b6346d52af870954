/- The walks of package scan: scalars up to a byte, signs. -/
import Derived.Test.YtjffagffjcbolaaScanC
namespace Go.Proofs.Ytjffagffjcbolaa
set_option linter.unusedVariables false
set_option linter.unusedSimpArgs false
open Go.RowKit
theorem idx_any (m : List UInt8) (c : Int) (h0 : 0 ≤ c) (h1 : c ≤ 255) : (m.any fun d => c == d.toNat) = decide (0 ≤ Lib.indexByte m c.toNat.toUInt8) := by
  apply bcl
  rw [decide_eq_true_eq]
  have := idxB_mem m c h0 h1
  unfold idxB at this
  rw [this, List.any_eq_true]
  simp only [beq_iff_eq]
theorem bt_u8 (l : List UInt8) (a : Nat) : bt l a = ((l.getD a 0).toNat : Int) := rfl
end Go.Proofs.Ytjffagffjcbolaa
