/- The counting format: how many tags a row has, and how many rows a text (no program in sight). -/
import Derived.Test.YtpknjngjkdnpiaaGreatDoorStatDfa
namespace Go.Proofs.YtpknjngjkdnpiaaGreatDoor
set_option linter.unusedVariables false
set_option linter.unusedSimpArgs false
open Go.RowKit
theorem slTagsGo_len (l : List UInt8) : ∀ f a no acc, (sTagsGo l f a no acc).1.length ≤ acc.length + f
  | 0, a, no, acc => by unfold sTagsGo; simp
  | f + 1, a, no, acc => by
    unfold sTagsGo
    split
    · have := slTagsGo_len l f ((sTagS l a no).2.1 + 1) false (acc ++ [(sTagS l a no).1])
      simp only [List.length_append, List.length_cons, List.length_nil] at this
      omega
    · simp
theorem slMoreS_len (l : List UInt8) (a : Nat) : (sMoreS l a).1.length ≤ l.length + 1 := by
  unfold sMoreS
  have := slTagsGo_len l (l.length + 1) (wordS l [35] a false).1 (wordS l [35] a false).2 []
  simpa using this
theorem slLineS_len (l : List UInt8) (a : Nat) : (statLineS l a).1.tags.length ≤ l.length + 1 ∧ (statLineS l a).1.fields = [] := by
  unfold statLineS
  simp only
  have h1 := fun a => slMoreS_len l a
  split
  · split
    · split
      · exact ⟨h1 _, rfl⟩
      · exact ⟨by simp, rfl⟩
    · exact ⟨h1 _, rfl⟩
  · exact ⟨by simp, rfl⟩
theorem slRowsGo_len (l : List UInt8) : ∀ f a acc, (∀ R ∈ acc, R.tags.length ≤ l.length + 1 ∧ R.fields = []) → ∀ R ∈ (rowsGo statLineS l f a acc).1, R.tags.length ≤ l.length + 1 ∧ R.fields = []
  | 0, a, acc, h => by unfold rowsGo; exact h
  | f + 1, a, acc, h => by
    unfold rowsGo
    split
    · exact h
    split
    · exact h
    · refine slRowsGo_len l f _ _ fun R hR => ?_
      rcases List.mem_append.1 hR with hR | hR
      · exact h R hR
      · rw [List.mem_singleton.1 hR]; exact slLineS_len l a
theorem slRows_len (l : List UInt8) : ∀ R ∈ (statRows l).1, R.tags.length ≤ l.length + 1 ∧ R.fields = [] := slRowsGo_len l _ _ _ (by simp)
theorem slRowsGo_many (l : List UInt8) : ∀ f a acc, (rowsGo statLineS l f a acc).1.length ≤ acc.length + f
  | 0, a, acc => by unfold rowsGo; simp
  | f + 1, a, acc => by
    unfold rowsGo
    split
    · simp
    split
    · simp
    · have := slRowsGo_many l f (statLineS l a).2.1 (acc ++ [(statLineS l a).1])
      simp only [List.length_append, List.length_cons, List.length_nil] at this
      omega
theorem slRows_many (l : List UInt8) : (statRows l).1.length ≤ l.length + 1 := by
  have := slRowsGo_many l (l.length + 1) 0 []
  simpa [statRows] using this
end Go.Proofs.YtpknjngjkdnpiaaGreatDoor
