/- The walks of package scan: scalars up to a byte, signs: the loops over a builder. -/
import Derived.Test.YtjffagffjcbolaaScanD
namespace Go.Proofs.Ytjffagffjcbolaa
set_option linter.unusedVariables false
set_option linter.unusedSimpArgs false
open Go.RowKit
def noOf (w : World) (g : Nat) : Bool := match w.cell? ⟨g, 2, none⟩ with
  | some (.bool b) => b
  | _ => false
def mOf (w : World) (g : Nat) (s : ByteArray) : Nat := 2 * (s.size - atOf w g) + if noOf w g then 0 else 1
def InkR (l : List UInt8) (e : Int) (m : List UInt8) (f b : Nat) (nb : Bool) (acc T : List UInt8) (b' : Nat) (n' : Bool) : Prop :=
  (nb = false ∧ l.length < f + b ∧ inkS l e m 110 f b acc = (T, b', n')) ∨ (nb = true ∧ b' = b ∧ n' = true)
theorem cells_len (l : List UInt8) : (Lib.byteCells l).length = l.length := by simp [Lib.byteCells]
theorem strCells_len (t : ByteArray) : (Lib.strCells t).length = t.size := by simp [Lib.strCells]
theorem strCells_eq (t : ByteArray) : Lib.strCells t = Lib.byteCells t.data.toList := by simp [Lib.strCells, Lib.byteCells]
def SgnR (l m : List UInt8) (wide : Bool) (f b : Nat) (nb : Bool) (acc : List UInt8) (R : List UInt8 × Nat × Bool) : Prop :=
  (nb = false ∧ l.length < f + b ∧ sgnS l m wide f b acc = R) ∨ (nb = true ∧ R = (acc, b, true))
/-- What the signs' loop says in the end. -/
def sgnEnd (a : Nat) (R : List UInt8 × Nat × Bool) : List UInt8 × Nat × Bool := (R.1, R.2.1, R.2.2 || R.2.1 == a)
theorem sgn_end (l m : List UInt8) (wide : Bool) (a : Nat) : sgn l m wide a false = sgnEnd a (sgnS l m wide (l.length + 1) a []) := rfl
end Go.Proofs.Ytjffagffjcbolaa
