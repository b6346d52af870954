/- Plain laws on the document's Legal and Bad (no program in sight). -/
import Derived.Test.YtjdanidnmpigkaaCharset3
namespace Go.Proofs.Ytjdanidnmpigkaa
open Go.RowKit
theorem lettB_iff (c : Int) (d : Bool) : letterB c d = true ↔ (97 ≤ c ∧ c ≤ 122) ∨ (65 ≤ c ∧ c ≤ 90) ∨ (d = true ∧ 48 ≤ c ∧ c ≤ 57) := by
  unfold letterB; simp only [Bool.or_eq_true, Bool.and_eq_true, decide_eq_true_eq, or_assoc]
theorem badF_none (p wh : Int) (l : List UInt8) : ∀ n i : Nat, (∀ j : Nat, i ≤ j → j < i + n → legalB p wh l j = true) → badFrom p wh l n i = -1 := by
  intro n
  induction n with
  | zero => intro i _; rfl
  | succ n ih => intro i hi; unfold badFrom; rw [if_pos (hi i (by omega) (by omega))]; exact ih (i + 1) fun j h1 h2 => hi j (by omega) (by omega)
theorem badF_some (p wh : Int) (l : List UInt8) : ∀ n i : Nat, badFrom p wh l n i < 0 → ∀ j : Nat, i ≤ j → j < i + n → legalB p wh l j = true := by
  intro n
  induction n with
  | zero => intro i _ j h1 h2; omega
  | succ n ih =>
    intro i h j h1 h2
    unfold badFrom at h
    split at h
    · rename_i hl
      by_cases e : j = i
      · subst e; exact hl
      · exact ih (i + 1) h j (by omega) (by omega)
    · omega
theorem badB_neg (p wh : Int) (l : List UInt8) : badB p wh l < 0 ↔ ∀ j : Nat, j < l.length → legalB p wh l j = true := by
  constructor
  · intro h j hj
    exact badF_some p wh l l.length 0 h j (by omega) (by omega)
  · intro h
    have := badF_none p wh l l.length 0 (fun j _ hj => h j (by omega))
    unfold badB; rw [this]; decide
theorem badB_all (p wh : Int) (l : List UInt8) (h : ∀ j : Nat, j < l.length → legalB p wh l j = true) : badB p wh l = -1 := badF_none p wh l l.length 0 (fun j _ hj => h j (by omega))
end Go.Proofs.Ytjdanidnmpigkaa
