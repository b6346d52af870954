/- How long the parts of a rule's text are (no program in sight). -/
import Derived.Test.YtodgfapgmmjpcaaGreatDoorTplDfa
namespace Go.Proofs.YtodgfapgmmjpcaaGreatDoor
set_option linter.unusedVariables false
set_option linter.unusedSimpArgs false
open Go.RowKit
section
variable {l : List UInt8}
theorem cut_sz (a b : Nat) : (mkS (cutL l a b)).size ≤ b - a := by
  have e : (mkS (cutL l a b)).size = (cutL l a b).length := rfl
  rw [e]
  unfold cutL
  rw [List.length_take]
  omega
theorem mem_snoc {α : Type} {acc : List α} {x z : α} (h : z ∈ acc ++ [x]) : z ∈ acc ∨ z = x := by
  rcases List.mem_append.1 h with h | h
  · exact .inl h
  · exact .inr (by simpa using h)
theorem fltGo_ok : ∀ f a no acc, a ≤ l.length → (∀ z ∈ acc, z.size ≤ 1048576) → (fltGo l f a no acc).2.1 ≤ 1048576 →
    (∀ z ∈ (fltGo l f a no acc).1, z.size ≤ 1048576) ∧ (fltGo l f a no acc).1.length ≤ acc.length + ((fltGo l f a no acc).2.1 - a) + 1
  | 0, a, no, acc, ha, hz, hM => ⟨hz, by simp [fltGo]⟩
  | f + 1, a, no, acc, ha, hz, hM => by
    unfold fltGo at hM ⊢
    have hle := someS_le l dtNode a false ha
    split
    · exact ⟨hz, by simp⟩
    split
    · rename_i h0 k
      rw [if_neg h0, if_pos k] at hM
      have hk := (isB_lt k).1
      split
      · rename_i k2
        rw [if_pos k2] at hM
        have hk2 := (isB_lt k2).1
        have h1 := fltGo_le (l := l) f (a + 2) false (acc ++ [wEvery]) (by omega)
        have ih := fltGo_ok f (a + 2) false (acc ++ [wEvery]) (by omega) (fun z h => by
          rcases mem_snoc h with h | rfl
          · exact hz z h
          · decide) hM
        refine ⟨ih.1, ?_⟩
        have := ih.2
        rw [List.length_append] at this
        simp only [List.length_singleton] at this
        omega
      · refine ⟨fun z h => ?_, by simp <;> omega⟩
        rcases mem_snoc h with h | rfl
        · exact hz z h
        · decide
    · rename_i h0 k
      rw [if_neg h0, if_neg k] at hM
      split
      · rename_i k2
        rw [if_pos k2] at hM
        have hk2 := (isB_lt k2).1
        have h1 := fltGo_le (l := l) f ((someS l dtNode a false).1 + 1) false (acc ++ [mkS (cutL l a (someS l dtNode a false).1)]) (by omega)
        have ih := fltGo_ok f ((someS l dtNode a false).1 + 1) false (acc ++ [mkS (cutL l a (someS l dtNode a false).1)]) (by omega) (fun z h => by
          rcases mem_snoc h with h | rfl
          · exact hz z h
          · have := cut_sz (l := l) a (someS l dtNode a false).1; omega) hM
        refine ⟨ih.1, ?_⟩
        have := ih.2
        rw [List.length_append] at this
        simp only [List.length_singleton] at this
        omega
      · rename_i k2
        rw [if_neg k2] at hM
        simp only at hM
        refine ⟨fun z h => ?_, by simp <;> omega⟩
        rcases mem_snoc h with h | rfl
        · exact hz z h
        · have := cut_sz (l := l) a (someS l dtNode a false).1; omega
theorem fltS_ok (hM : (fltS l).2.1 ≤ 1048576) : (∀ z ∈ (fltS l).1, z.size ≤ 1048576) ∧ (fltS l).1.length ≤ 2097152 := by
  unfold fltS at hM ⊢
  split
  · exact ⟨by simp, by simp⟩
  · rename_i k
    rw [if_neg k] at hM
    have := fltGo_ok (l := l) (l.length + 1) 0 false [] (by omega) (by simp) hM
    exact ⟨this.1, by have := this.2; simp at this; omega⟩
theorem prtGo_ok : ∀ f a no acc, a ≤ l.length → (∀ z ∈ acc, z.size ≤ 1048576) → (prtGo l f a no acc).2.1 ≤ 1048576 →
    (∀ z ∈ (prtGo l f a no acc).1, z.size ≤ 1048576) ∧ (prtGo l f a no acc).1.length ≤ acc.length + ((prtGo l f a no acc).2.1 - a) + 1
  | 0, a, no, acc, ha, hz, hM => ⟨hz, by simp [prtGo]⟩
  | f + 1, a, no, acc, ha, hz, hM => by
    unfold prtGo at hM ⊢
    have hle := someS_le l dtNode a false ha
    split
    · exact ⟨hz, by simp⟩
    rename_i h0
    rw [if_neg h0] at hM
    split
    · rename_i k
      rw [if_pos k] at hM
      refine ⟨fun z h => ?_, by simp <;> omega⟩
      rcases mem_snoc h with h | rfl
      · exact hz z h
      · decide
    · rename_i k
      rw [if_neg k] at hM
      split
      · rename_i k2
        rw [if_pos k2] at hM
        have hk2 := (isB_lt k2).1
        have h1 := prtGo_le (l := l) f ((someS l dtNode a false).1 + 1) false (acc ++ [mkS (cutL l a (someS l dtNode a false).1)]) (by omega)
        have ih := prtGo_ok f ((someS l dtNode a false).1 + 1) false (acc ++ [mkS (cutL l a (someS l dtNode a false).1)]) (by omega) (fun z h => by
          rcases mem_snoc h with h | rfl
          · exact hz z h
          · have := cut_sz (l := l) a (someS l dtNode a false).1; omega) hM
        refine ⟨ih.1, ?_⟩
        have := ih.2
        rw [List.length_append] at this
        simp only [List.length_singleton] at this
        omega
      · rename_i k2
        rw [if_neg k2] at hM
        simp only at hM
        refine ⟨fun z h => ?_, by simp <;> omega⟩
        rcases mem_snoc h with h | rfl
        · exact hz z h
        · have := cut_sz (l := l) a (someS l dtNode a false).1; omega
theorem labS_sz {a : Nat} (ha : a ≤ l.length) (hM : (labS l a).2.1 ≤ 1048576) : (labS l a).1.1.size ≤ 1048576 ∧ (labS l a).1.2.size ≤ 1048576 := by
  unfold labS at hM ⊢
  simp only at hM ⊢
  have h1 := someS_le l dtNode a false ha
  generalize someS l dtNode a false = k at h1 hM ⊢
  have h2 := wordS_le l [61] k.1 k.2 h1.2
  generalize wordS l [61] k.1 k.2 = e at h2 hM ⊢
  have h3 := someS_le l tmInk e.1 e.2 h2.2
  have c1 := cut_sz (l := l) a k.1
  have c2 := cut_sz (l := l) e.1 (someS l tmInk e.1 e.2).1
  omega
theorem extGo_ok : ∀ f a no acc, a ≤ l.length → (∀ z ∈ acc, z.1.size ≤ 1048576 ∧ z.2.size ≤ 1048576) → (extGo l f a no acc).2.1 ≤ 1048576 →
    (∀ z ∈ (extGo l f a no acc).1, z.1.size ≤ 1048576 ∧ z.2.size ≤ 1048576) ∧ (extGo l f a no acc).1.length ≤ acc.length + ((extGo l f a no acc).2.1 - a) + 1
  | 0, a, no, acc, ha, hz, hM => ⟨hz, by simp [extGo]⟩
  | f + 1, a, no, acc, ha, hz, hM => by
    unfold extGo at hM ⊢
    have hle := labS_le (l := l) ha
    split
    · exact ⟨hz, by simp⟩
    rename_i h0
    rw [if_neg h0] at hM
    split
    · rename_i k2
      rw [if_pos k2] at hM
      have hk2 := (isB_lt k2).1
      have h1 := extGo_le (l := l) f ((labS l a).2.1 + 1) false (acc ++ [(labS l a).1]) (by omega)
      have ih := extGo_ok f ((labS l a).2.1 + 1) false (acc ++ [(labS l a).1]) (by omega) (fun z h => by
        rcases mem_snoc h with h | rfl
        · exact hz z h
        · exact labS_sz ha (by omega)) hM
      refine ⟨ih.1, ?_⟩
      have := ih.2
      rw [List.length_append] at this
      simp only [List.length_singleton] at this
      omega
    · rename_i k2
      rw [if_neg k2] at hM
      simp only at hM
      refine ⟨fun z h => ?_, by simp <;> omega⟩
      rcases mem_snoc h with h | rfl
      · exact hz z h
      · exact labS_sz ha hM
end
end Go.Proofs.YtodgfapgmmjpcaaGreatDoor
