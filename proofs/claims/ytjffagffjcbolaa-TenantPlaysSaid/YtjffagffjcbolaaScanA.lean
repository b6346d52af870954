/- The walks of package scan: its small methods. -/
import Derived.Test.YtjffagffjcbolaaAway
import Derived.Test.YtjffagffjcbolaaScanDef
import Derived.Deep.RegionHeld3
import Derived.Deep.QuietTactic
import Derived.BigQuiet
import Derived.IntWalk
namespace Go.Proofs.Ytjffagffjcbolaa
set_option linter.unusedVariables false
set_option linter.unusedSimpArgs false
open Go.RowKit
section
variable {w w' : World} {g : Nat} {s : ByteArray} {a : Nat} {no : Bool}
end
/-- What Peek tells. -/
def pkC (l : List UInt8) (a : Nat) (no : Bool) : Int := if pkB l a no then bt l a else 0
theorem pkB_cases (s : ByteArray) (a : Nat) (no : Bool) (ha : a ≤ s.size) : (no = true ∧ pkB s.data.toList a no = false) ∨ (no = false ∧ a = s.size ∧ pkB s.data.toList a no = false) ∨ (no = false ∧ a < s.size ∧ pkB s.data.toList a no = true) := by
  have hl : s.data.toList.length = s.size := by simp
  cases no
  · right
    rcases Nat.lt_or_ge a s.size with h | h
    · exact .inr ⟨rfl, h, by simp [pkB, h]⟩
    · exact .inl ⟨rfl, by omega, by simp [pkB]; omega⟩
  · exact .inl ⟨rfl, rfl⟩
theorem isB_def (l : List UInt8) (a : Nat) (no : Bool) (c : Int) : (pkB l a no = true ∧ isB l a no c = (pkC l a no == c)) ∨ (pkB l a no = false ∧ isB l a no c = false) := by
  cases h : pkB l a no
  · exact .inr ⟨rfl, by unfold isB; rw [h]; rfl⟩
  · exact .inl ⟨rfl, by unfold isB pkC; rw [h]; rfl⟩
end Go.Proofs.Ytjffagffjcbolaa
