/- The walks of package scan: words, classes, numbers, scalars, signs behind backslashes. -/
import Derived.Test.YtjffagffjcbolaaScanA
import Derived.Test.YtjffagffjcbolaaUtf
import Derived.Test.YtjffagffjcbolaaShelfA
import Derived.WalkLawsBesides
namespace Go.Proofs.Ytjffagffjcbolaa
set_option linter.unusedVariables false
set_option linter.unusedSimpArgs false
open Go.RowKit
/-- How far the scanner went, read from memory: a loop's measure. -/
def atOf (w : World) (g : Nat) : Nat := (intOf ((w.cell? ⟨g, 1, none⟩).getD (.bool false))).toNat
theorem word_step (l : List UInt8) (c : UInt8) (cs : List UInt8) (b : Nat) : wordS l (c :: cs) b false = wordS l cs (takeA l b false c.toNat) (!isB l b false c.toNat) := by
  conv => lhs; unfold wordS
  unfold takeA
  cases isB l b false c.toNat
  · cases cs <;> simp [wordS]
  · simp
theorem wordS_no (l w : List UInt8) (a : Nat) : wordS l w a true = (a, true) := by cases w <;> simp [wordS]
/-- How far bytes of a class go. -/
def whN (l : List UInt8) (p : Int → Bool) (a : Nat) (no : Bool) : Nat := if no then a else whA l p a
theorem whN_le (l : List UInt8) (p : Int → Bool) (a : Nat) (no : Bool) (h : a ≤ l.length) : a ≤ whN l p a no ∧ whN l p a no ≤ l.length := by
  unfold whN; split
  · exact ⟨Nat.le_refl _, h⟩
  · exact whA_le l p a h
theorem whN_yes {l : List UInt8} {p : Int → Bool} {a : Nat} {no : Bool} (h : pkB l a no = true) (k : p (pkC l a no) = true) : whN l p a no = whN l p (a + 1) no ∧ a < l.length := by
  have h1 : no = false ∧ a < l.length := by simpa [pkB] using h
  obtain ⟨rfl, h2⟩ := h1
  unfold pkC at k; rw [h, if_pos rfl] at k
  exact ⟨whA_yes h2 k, h2⟩
theorem whN_no {l : List UInt8} {p : Int → Bool} {a : Nat} {no : Bool} (h : pkB l a no = false ∨ p (pkC l a no) = false) (hl : a ≤ l.length) : whN l p a no = a := by
  unfold whN
  cases no
  · simp only [Bool.false_eq_true, if_false]
    by_cases h2 : a < l.length
    · have h1 : pkB l a false = true := by simp [pkB, h2]
      rcases h with h | h
      · rw [h] at h1; cases h1
      · unfold pkC at h; rw [h1, if_pos rfl] at h
        exact whA_no h2 h
    · exact whA_end (by omega)
  · rfl
end Go.Proofs.Ytjffagffjcbolaa
