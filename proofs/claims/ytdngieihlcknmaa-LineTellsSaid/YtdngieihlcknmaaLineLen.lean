/- The line format: how many tags and fields a row has (no program in sight). -/
import Derived.Test.YtdngieihlcknmaaLineDfa
namespace Go.Proofs.Ytdngieihlcknmaa
set_option linter.unusedVariables false
set_option linter.unusedSimpArgs false
open Go.RowKit
theorem tagsS_len (l : List UInt8) : ∀ f a no acc, (tagsS l f a no acc).1.length ≤ acc.length + f
  | 0, a, no, acc => by unfold tagsS; simp
  | f + 1, a, no, acc => by
    unfold tagsS
    split
    · have := tagsS_len l f (tagS l (a + 1) false).2.1 (tagS l (a + 1) false).2.2 (acc ++ [(tagS l (a + 1) false).1])
      simp only [List.length_append, List.length_cons, List.length_nil] at this
      omega
    · simp
theorem fieldsS_len (l : List UInt8) : ∀ f a no acc, (fieldsS l f a no acc).1.length ≤ acc.length + f
  | 0, a, no, acc => by unfold fieldsS; simp
  | f + 1, a, no, acc => by
    unfold fieldsS
    split
    · have := fieldsS_len l f ((fieldS l a no).2.1 + 1) false (acc ++ [(fieldS l a no).1])
      simp only [List.length_append, List.length_cons, List.length_nil] at this
      omega
    · simp
theorem lineS_len (l : List UInt8) (a : Nat) : (lineS l a).1.tags.length ≤ l.length + 1 ∧ (lineS l a).1.fields.length ≤ l.length + 1 := by
  unfold lineS
  simp only
  have h1 := fun a no => tagsS_len l (l.length + 1) a no []
  have h2 := fun a no => fieldsS_len l (l.length + 1) a no []
  simp only [List.length_nil, Nat.zero_add] at h1 h2
  refine ⟨?_, ?_⟩ <;> split <;> first | exact h1 _ _ | exact h2 _ _
theorem rowsGo_len (l : List UInt8) : ∀ f a acc, (∀ R ∈ acc, R.tags.length ≤ l.length + 1 ∧ R.fields.length ≤ l.length + 1) → ∀ R ∈ (rowsGo lineS l f a acc).1, R.tags.length ≤ l.length + 1 ∧ R.fields.length ≤ l.length + 1
  | 0, a, acc, h => by unfold rowsGo; exact h
  | f + 1, a, acc, h => by
    unfold rowsGo
    split
    · exact h
    split
    · exact h
    · refine rowsGo_len l f _ _ fun R hR => ?_
      rcases List.mem_append.1 hR with hR | hR
      · exact h R hR
      · rw [List.mem_singleton.1 hR]; exact lineS_len l a
theorem lineRows_len (l : List UInt8) : ∀ R ∈ (lineRows l).1, R.tags.length ≤ l.length + 1 ∧ R.fields.length ≤ l.length + 1 := rowsGo_len l _ _ _ (by simp)
theorem rowsGo_many (l : List UInt8) : ∀ f a acc, (rowsGo lineS l f a acc).1.length ≤ acc.length + f
  | 0, a, acc => by unfold rowsGo; simp
  | f + 1, a, acc => by
    unfold rowsGo
    split
    · simp
    split
    · simp
    · have := rowsGo_many l f (lineS l a).2.1 (acc ++ [(lineS l a).1])
      simp only [List.length_append, List.length_cons, List.length_nil] at this
      omega
theorem lineRows_many (l : List UInt8) : (lineRows l).1.length ≤ l.length + 1 := by
  have := rowsGo_many l (l.length + 1) 0 []
  simpa [lineRows] using this
end Go.Proofs.Ytdngieihlcknmaa
