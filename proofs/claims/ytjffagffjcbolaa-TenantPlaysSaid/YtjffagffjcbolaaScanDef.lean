/- A text that is gone through from the left: what the scanner and the reference's answer, as plain functions (no program in sight). -/
import Derived.Test.YtjffagffjcbolaaUtfDef
namespace Go.Proofs.Ytjffagffjcbolaa
set_option linter.unusedVariables false
set_option linter.unusedSimpArgs false
open Go.RowKit
def mkS (l : List UInt8) : ByteArray := ⟨l.toArray⟩
/-- Is there a byte at a place, and may it go on? -/
def pkB (l : List UInt8) (a : Nat) (no : Bool) : Bool := !no && decide (a < l.length)
/-- Is the next byte that one? -/
def isB (l : List UInt8) (a : Nat) (no : Bool) (c : Int) : Bool := pkB l a no && (bt l a == c)
def takeA (l : List UInt8) (a : Nat) (no : Bool) (c : Int) : Nat := if isB l a no c then a + 1 else a
/-- A word: how far, does it stop? -/
def wordS (l : List UInt8) : List UInt8 → Nat → Bool → Nat × Bool
  | [], a, no => (a, no)
  | c :: cs, a, no => if no then (a, true) else if isB l a false c.toNat then wordS l cs (a + 1) false else (a, true)
/-- Bytes of a class. -/
def whA (l : List UInt8) (p : Int → Bool) (a : Nat) : Nat := a + ((l.drop a).takeWhile fun c => p c.toNat).length
def someS (l : List UInt8) (p : Int → Bool) (a : Nat) (no : Bool) : Nat × Bool := if no then (a, true) else (whA l p a, whA l p a == a)
def digB (c : Int) : Bool := decide (48 ≤ c) && decide (c ≤ 57)
def letB (c : Int) : Bool := decide (97 ≤ c) && decide (c ≤ 122) || decide (65 ≤ c) && decide (c ≤ 90)
def numS (l : List UInt8) (a : Nat) (no : Bool) : Nat × Bool := if no then (a, true) else someS l digB (takeA l a false 45) false
def decS (l : List UInt8) (a : Nat) (no : Bool) : Nat × Bool :=
  if (numS l a no).2 then numS l a no else if isB l (numS l a no).1 false 46 then someS l digB ((numS l a no).1 + 1) false else numS l a no
/-- The bytes from a place up to another one. -/
def cutL (l : List UInt8) (a b : Nat) : List UInt8 := (l.drop a).take (b - a)
/-- Is there behind a place one of some signs? -/
def escB (l : List UInt8) (m : List UInt8) (a : Nat) : Bool := decide (a + 1 < l.length) && m.any fun c => bt l (a + 1) == c.toNat
/-- Scalars up to a byte that ends them. -/
def inkS (l : List UInt8) (e : Int) (m : List UInt8) (n : Int) : Nat → Nat → List UInt8 → List UInt8 × Nat × Bool
  | 0, a, acc => (acc, a, true)
  | f + 1, a, acc =>
    if l.length ≤ a then (acc, a, true)
    else if bt l a = e then (acc, a, false)
    else if bt l a = 10 then (acc, a, true)
    else if bt l a = 92 then (if escB l m a then inkS l e m n f (a + 2) (acc ++ [if bt l (a + 1) = n then 10 else l.getD (a + 1) 0]) else (acc, a + 1, true))
    else if (frontU l a).2 then inkS l e m n f (a + (frontU l a).1) (acc ++ cutL l a (a + (frontU l a).1))
    else (acc ++ cutL l a (a + (frontU l a).1), a + (frontU l a).1, true)
/-- Bytes from 33 to 126 but some; wide: scalars, too. -/
def sgnS (l : List UInt8) (m : List UInt8) (wide : Bool) : Nat → Nat → List UInt8 → List UInt8 × Nat × Bool
  | 0, a, acc => (acc, a, true)
  | f + 1, a, acc =>
    if l.length ≤ a then (acc, a, false)
    else if bt l a = 92 then (if escB l m a then sgnS l m wide f (a + 2) (acc ++ [l.getD (a + 1) 0]) else (acc, a + 1, true))
    else if wide = true ∧ 127 < bt l a then (if (frontU l a).2 then sgnS l m wide f (a + (frontU l a).1) (acc ++ cutL l a (a + (frontU l a).1)) else (acc ++ cutL l a (a + (frontU l a).1), a + (frontU l a).1, true))
    else if 32 < bt l a ∧ bt l a < 127 ∧ (m.any fun c => bt l a == c.toNat) = false then sgnS l m wide f (a + 1) (acc ++ [l.getD a 0])
    else (acc, a, false)
def ink (l : List UInt8) (e : Int) (m : List UInt8) (n : Int) (a : Nat) (no : Bool) : List UInt8 × Nat × Bool := if no then ([], a, true) else inkS l e m n (l.length + 1) a []
def sgn (l : List UInt8) (m : List UInt8) (wide : Bool) (a : Nat) (no : Bool) : List UInt8 × Nat × Bool :=
  if no then ([], a, true) else ((sgnS l m wide (l.length + 1) a []).1, (sgnS l m wide (l.length + 1) a []).2.1, (sgnS l m wide (l.length + 1) a []).2.2 || (sgnS l m wide (l.length + 1) a []).2.1 == a)
/-- What Inked tells: nothing, if it stops. -/
def inkV (l : List UInt8) (e : Int) (m : List UInt8) (n : Int) (a : Nat) (no : Bool) : List UInt8 := if (ink l e m n a no).2.2 then [] else (ink l e m n a no).1
theorem pkB_bt {l : List UInt8} {a : Nat} (h : a < l.length) : pkB l a false = true := by simp [pkB, h]
theorem pkB_end {l : List UInt8} {a : Nat} {no : Bool} (h : l.length ≤ a) : pkB l a no = false := by simp [pkB]; intro _; omega
theorem isB_no (l : List UInt8) (a : Nat) (c : Int) : isB l a true c = false := rfl
theorem isB_lt {l : List UInt8} {a : Nat} {no : Bool} {c : Int} (h : isB l a no c = true) : a < l.length ∧ no = false ∧ bt l a = c := by
  simpa [isB, pkB, and_assoc, and_comm, and_left_comm] using h
theorem wordS_le (l : List UInt8) : ∀ w a no, a ≤ l.length → a ≤ (wordS l w a no).1 ∧ (wordS l w a no).1 ≤ l.length
  | [], a, no, h => ⟨Nat.le_refl _, h⟩
  | c :: cs, a, no, h => by
    unfold wordS
    split
    · exact ⟨Nat.le_refl _, h⟩
    · split
      · rename_i hi
        have := (isB_lt hi).1
        have ih := wordS_le l cs (a + 1) false (by omega)
        exact ⟨by omega, ih.2⟩
      · exact ⟨Nat.le_refl _, h⟩
theorem whA_le (l : List UInt8) (p : Int → Bool) (a : Nat) (h : a ≤ l.length) : a ≤ whA l p a ∧ whA l p a ≤ l.length := by
  unfold whA
  have : ((l.drop a).takeWhile fun c => p c.toNat).length ≤ (l.drop a).length := List.Sublist.length_le (List.takeWhile_sublist _)
  rw [List.length_drop] at this
  omega
theorem someS_le (l : List UInt8) (p : Int → Bool) (a : Nat) (no : Bool) (h : a ≤ l.length) : a ≤ (someS l p a no).1 ∧ (someS l p a no).1 ≤ l.length := by
  unfold someS
  split
  · exact ⟨Nat.le_refl _, h⟩
  · exact whA_le l p a h
theorem takeA_le (l : List UInt8) (a : Nat) (no : Bool) (c : Int) (h : a ≤ l.length) : a ≤ takeA l a no c ∧ takeA l a no c ≤ l.length := by
  unfold takeA
  split
  · rename_i hi
    have := (isB_lt hi).1
    omega
  · omega
theorem numS_le (l : List UInt8) (a : Nat) (no : Bool) (h : a ≤ l.length) : a ≤ (numS l a no).1 ∧ (numS l a no).1 ≤ l.length := by
  unfold numS
  split
  · exact ⟨Nat.le_refl _, h⟩
  · have h1 := takeA_le l a false 45 h
    have h2 := someS_le l digB (takeA l a false 45) false h1.2
    omega
theorem decS_le (l : List UInt8) (a : Nat) (no : Bool) (h : a ≤ l.length) : a ≤ (decS l a no).1 ∧ (decS l a no).1 ≤ l.length := by
  unfold decS
  have h1 := numS_le l a no h
  split
  · exact h1
  · split
    · rename_i hi
      have := (isB_lt hi).1
      have h2 := someS_le l digB ((numS l a no).1 + 1) false (by omega)
      omega
    · exact h1
theorem cutL_len (l : List UInt8) (a b : Nat) (h : b ≤ l.length) : (cutL l a b).length = b - a := by
  unfold cutL; rw [List.length_take, List.length_drop]; omega
/-- A step of the class: the next byte is one. -/
theorem whA_yes {l : List UInt8} {p : Int → Bool} {a : Nat} (h : a < l.length) (k : p (bt l a) = true) : whA l p a = whA l p (a + 1) := by
  unfold whA
  rw [List.drop_eq_getElem_cons h, List.takeWhile_cons, if_pos (by rw [← bt_get h]; exact k)]
  simp; omega
theorem whA_no {l : List UInt8} {p : Int → Bool} {a : Nat} (h : a < l.length) (k : p (bt l a) = false) : whA l p a = a := by
  unfold whA
  rw [List.drop_eq_getElem_cons h, List.takeWhile_cons, if_neg (by rw [← bt_get h, k]; simp)]
  simp
theorem whA_end {l : List UInt8} {p : Int → Bool} {a : Nat} (h : l.length ≤ a) : whA l p a = a := by
  unfold whA; rw [List.drop_of_length_le h]; simp
theorem escB_lt {l m : List UInt8} {a : Nat} (h : escB l m a = true) : a + 1 < l.length := by
  simp [escB] at h; exact h.1
theorem inkS_le (l : List UInt8) (e : Int) (m : List UInt8) (n : Int) : ∀ f a acc, a ≤ l.length → a ≤ (inkS l e m n f a acc).2.1 ∧ (inkS l e m n f a acc).2.1 ≤ l.length ∧ (inkS l e m n f a acc).1.length ≤ acc.length + ((inkS l e m n f a acc).2.1 - a)
  | 0, a, acc, h => ⟨Nat.le_refl _, h, by simp [inkS]⟩
  | f + 1, a, acc, h => by
    unfold inkS
    by_cases h1 : l.length ≤ a
    · rw [if_pos h1]; exact ⟨Nat.le_refl _, h, by simp⟩
    rw [if_neg h1]
    by_cases h2 : bt l a = e
    · rw [if_pos h2]; exact ⟨Nat.le_refl _, h, by simp⟩
    rw [if_neg h2]
    by_cases h3 : bt l a = 10
    · rw [if_pos h3]; exact ⟨Nat.le_refl _, h, by simp⟩
    rw [if_neg h3]
    have hf := front_le l a (by omega)
    by_cases h4 : bt l a = 92
    · rw [if_pos h4]
      by_cases h5 : escB l m a = true
      · rw [if_pos h5]
        have := escB_lt h5
        have ih := inkS_le l e m n f (a + 2) (acc ++ [if bt l (a + 1) = n then 10 else l.getD (a + 1) 0]) (by omega)
        rw [List.length_append] at ih
        simp only [List.length_singleton] at ih
        exact ⟨by omega, ih.2.1, by omega⟩
      · rw [if_neg h5]; exact ⟨by simp, by simp; omega, by simp⟩
    rw [if_neg h4]
    by_cases h5 : (frontU l a).2 = true
    · rw [if_pos h5]
      have ih := inkS_le l e m n f (a + (frontU l a).1) (acc ++ cutL l a (a + (frontU l a).1)) hf.2.1
      rw [List.length_append, cutL_len l a _ hf.2.1] at ih
      exact ⟨by omega, ih.2.1, by omega⟩
    · rw [if_neg h5]; exact ⟨by simp, hf.2.1, by simp only [List.length_append, cutL_len l a _ hf.2.1]; omega⟩
theorem sgnS_le (l : List UInt8) (m : List UInt8) (wide : Bool) : ∀ f a acc, a ≤ l.length → a ≤ (sgnS l m wide f a acc).2.1 ∧ (sgnS l m wide f a acc).2.1 ≤ l.length ∧ (sgnS l m wide f a acc).1.length ≤ acc.length + ((sgnS l m wide f a acc).2.1 - a)
  | 0, a, acc, h => ⟨Nat.le_refl _, h, by simp [sgnS]⟩
  | f + 1, a, acc, h => by
    unfold sgnS
    by_cases h1 : l.length ≤ a
    · rw [if_pos h1]; exact ⟨Nat.le_refl _, h, by simp⟩
    rw [if_neg h1]
    have hf := front_le l a (by omega)
    by_cases h4 : bt l a = 92
    · rw [if_pos h4]
      by_cases h5 : escB l m a = true
      · rw [if_pos h5]
        have := escB_lt h5
        have ih := sgnS_le l m wide f (a + 2) (acc ++ [l.getD (a + 1) 0]) (by omega)
        rw [List.length_append] at ih
        simp only [List.length_singleton] at ih
        exact ⟨by omega, ih.2.1, by omega⟩
      · rw [if_neg h5]; exact ⟨by simp, by simp; omega, by simp⟩
    rw [if_neg h4]
    by_cases h2 : wide = true ∧ 127 < bt l a
    · rw [if_pos h2]
      by_cases h5 : (frontU l a).2 = true
      · rw [if_pos h5]
        have ih := sgnS_le l m wide f (a + (frontU l a).1) (acc ++ cutL l a (a + (frontU l a).1)) hf.2.1
        rw [List.length_append, cutL_len l a _ hf.2.1] at ih
        exact ⟨by omega, ih.2.1, by omega⟩
      · rw [if_neg h5]; exact ⟨by simp, hf.2.1, by simp only [List.length_append, cutL_len l a _ hf.2.1]; omega⟩
    rw [if_neg h2]
    by_cases h3 : 32 < bt l a ∧ bt l a < 127 ∧ (m.any fun c => bt l a == c.toNat) = false
    · rw [if_pos h3]
      have ih := sgnS_le l m wide f (a + 1) (acc ++ [l.getD a 0]) (by omega)
      rw [List.length_append] at ih
      simp only [List.length_singleton] at ih
      exact ⟨by omega, ih.2.1, by omega⟩
    · rw [if_neg h3]; exact ⟨Nat.le_refl _, h, by simp⟩
theorem ink_le (l : List UInt8) (e : Int) (m : List UInt8) (n : Int) (a : Nat) (no : Bool) (h : a ≤ l.length) : a ≤ (ink l e m n a no).2.1 ∧ (ink l e m n a no).2.1 ≤ l.length ∧ (ink l e m n a no).1.length ≤ (ink l e m n a no).2.1 - a := by
  unfold ink
  split
  · exact ⟨Nat.le_refl _, h, by simp⟩
  · have := inkS_le l e m n (l.length + 1) a [] h
    simpa using this
theorem sgn_le (l : List UInt8) (m : List UInt8) (wide : Bool) (a : Nat) (no : Bool) (h : a ≤ l.length) : a ≤ (sgn l m wide a no).2.1 ∧ (sgn l m wide a no).2.1 ≤ l.length ∧ (sgn l m wide a no).1.length ≤ (sgn l m wide a no).2.1 - a := by
  unfold sgn
  split
  · exact ⟨Nat.le_refl _, h, by simp⟩
  · have := sgnS_le l m wide (l.length + 1) a [] h
    simpa using this
end Go.Proofs.Ytjffagffjcbolaa
