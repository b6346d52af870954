/- Well-formed bytes: what utf and the reference answer, as plain functions (no program in sight). -/
import Derived.Test.YtjffagffjcbolaaAux
namespace Go.Proofs.Ytjffagffjcbolaa
set_option linter.unusedVariables false
set_option linter.unusedSimpArgs false
open Go.RowKit
/-- How many bytes a first byte begins; 0: none. -/
def uSize (c : Int) : Nat := if c < 128 then 1 else if c < 194 then 0 else if c < 224 then 2 else if c < 240 then 3 else if c < 245 then 4 else 0
def uLo (c : Int) : Int := if c = 224 then 160 else if c = 240 then 144 else 128
def uHi (c : Int) : Int := if c = 237 then 159 else if c = 244 then 143 else 191
def kLo (c : Int) (k : Nat) : Int := if k = 1 then uLo c else 128
def kHi (c : Int) (k : Nat) : Int := if k = 1 then uHi c else 191
/-- Is the k-th byte behind a place such as it must be? -/
def tailB (l : List UInt8) (at_ k : Nat) : Bool := decide (at_ + k < l.length) && (decide (kLo (bt l at_) k ≤ bt l (at_ + k)) && decide (bt l (at_ + k) ≤ kHi (bt l at_) k))
/-- From the k-th byte on: how many bytes are a scalar's, are these all of it? -/
def frGo (l : List UInt8) (at_ n : Nat) : Nat → Nat → Nat × Bool
  | 0, k => (k, true)
  | f + 1, k => if k < n then (if tailB l at_ k = true then frGo l at_ n f (k + 1) else (k, false)) else (n, true)
def frontU (l : List UInt8) (at_ : Nat) : Nat × Bool := if uSize (bt l at_) = 0 then (0, false) else frGo l at_ (uSize (bt l at_)) 4 1
theorem uSize_le (c : Int) : uSize c ≤ 4 := by unfold uSize; (repeat' split) <;> omega
theorem frGo_le (l : List UInt8) (at_ n : Nat) : ∀ f k, k ≤ n → n ≤ f + k → at_ + k ≤ l.length → (frGo l at_ n f k).1 ≤ n ∧ at_ + (frGo l at_ n f k).1 ≤ l.length ∧ k ≤ (frGo l at_ n f k).1 ∧ ((frGo l at_ n f k).2 = true → (frGo l at_ n f k).1 = n)
  | 0, k, h, h2, h3 => ⟨h, h3, Nat.le_refl _, fun _ => by show k = n; omega⟩
  | f + 1, k, h, h2, h3 => by
    unfold frGo
    by_cases hk : k < n
    · rw [if_pos hk]
      by_cases ht : tailB l at_ k = true
      · rw [if_pos ht]
        have : at_ + (k + 1) ≤ l.length := by
          unfold tailB at ht
          simp only [Bool.and_eq_true, decide_eq_true_eq] at ht
          omega
        have ih := frGo_le l at_ n f (k + 1) (by omega) (by omega) this
        exact ⟨ih.1, ih.2.1, by omega, ih.2.2.2⟩
      · rw [if_neg ht]
        exact ⟨h, h3, Nat.le_refl _, fun h => by cases h⟩
    · rw [if_neg hk]
      have : k = n := by omega
      subst this
      exact ⟨Nat.le_refl _, h3, Nat.le_refl _, fun _ => rfl⟩
theorem front_le (l : List UInt8) (at_ : Nat) (h : at_ < l.length) : (frontU l at_).1 ≤ 4 ∧ at_ + (frontU l at_).1 ≤ l.length ∧ ((frontU l at_).2 = true → 1 ≤ (frontU l at_).1) := by
  unfold frontU
  have h4 := uSize_le (bt l at_)
  split
  · exact ⟨by simp, by simp; omega, fun h => by cases h⟩
  · have := frGo_le l at_ (uSize (bt l at_)) 4 1 (by omega) (by omega) (by omega)
    exact ⟨by omega, this.2.1, fun _ => this.2.2.1⟩
/-- How far a text can go that isn't well-formed; -1: it is. -/
def badGo (l : List UInt8) : Nat → Nat → Int
  | 0, _ => -1
  | f + 1, at_ => if at_ < l.length then (if (frontU l at_).2 = true then badGo l f (at_ + (frontU l at_).1) else (at_ : Int) + (frontU l at_).1) else -1
def badU (l : List UInt8) : Int := badGo l l.length 0
theorem badGo_bd (l : List UInt8) : ∀ f at_, at_ ≤ l.length → -1 ≤ badGo l f at_ ∧ badGo l f at_ ≤ l.length
  | 0, at_, _ => ⟨by simp [badGo], by simp only [badGo]; omega⟩
  | f + 1, at_, h => by
    unfold badGo
    split
    · rename_i hlt
      have hf := front_le l at_ hlt
      split
      · exact badGo_bd l f _ hf.2.1
      · omega
    · omega
theorem badU_bd (l : List UInt8) : -1 ≤ badU l ∧ badU l ≤ l.length := badGo_bd l _ _ (Nat.zero_le _)
end Go.Proofs.Ytjffagffjcbolaa
