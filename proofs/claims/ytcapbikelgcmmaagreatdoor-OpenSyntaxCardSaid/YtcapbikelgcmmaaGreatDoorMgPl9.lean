/- Well-formed bytes: what utf and the reference answer, as plain functions (no program in sight). A text that is gone through from the left: what the scanner and the reference's answer, as plain functions (no program in sight). Rows of a payload, their tags, their fields, as data and as cells (no program in sight). Classes of bytes (no program in sight). The open format: a text's rows, and where it can't go on, as plain functions (no program in sight). Decimals: what a text says, as plain functions (no program in sight). Labels: what the package and the reference answer, as plain functions (no program in sight). Wide numbers: four words as a number (no program in sight). Decimals by wide numbers, as plain functions (no program in sight). Points and families: as data and as cells; which point is ahead (no program in sight). The open format, read: what a text's rows make, as plain functions (no program in sight). The open format, read: where a fault may stand, which one it may be (plain law). The tables of OpenRanges and OpenTwice. The order of points: what point.Compare tells is an order (no program in sight). The open format, read: families of other names, points unlike each other (plain law). The plain law of slices' stable sort: what its merging does to two rising rows (no program in sight). -/
import Derived.Test.YtcapbikelgcmmaaGreatDoorAux
import Derived.Sort.Walk0
import Derived.Lib.Bytealg
namespace Go.Proofs.YtcapbikelgcmmaaGreatDoor
set_option linter.unusedVariables false
set_option linter.unusedSimpArgs false
open Go.RowKit
section
/-- How many bytes a first byte begins; 0: none. -/
def uSize (c : Int) : Nat := if c < 128 then 1 else if c < 194 then 0 else if c < 224 then 2 else if c < 240 then 3 else if c < 245 then 4 else 0
def uLo (c : Int) : Int := if c = 224 then 160 else if c = 240 then 144 else 128
def uHi (c : Int) : Int := if c = 237 then 159 else if c = 244 then 143 else 191
def kLo (c : Int) (k : Nat) : Int := if k = 1 then uLo c else 128
def kHi (c : Int) (k : Nat) : Int := if k = 1 then uHi c else 191
/-- Is the k-th byte behind a place such as it must be? -/
def tailB (l : List UInt8) (at_ k : Nat) : Bool := decide (at_ + k < l.length) && (decide (kLo (bt l at_) k ≤ bt l (at_ + k)) && decide (bt l (at_ + k) ≤ kHi (bt l at_) k))
/-- From the k-th byte on: how many bytes are a scalar's, are these all of it? -/
def frGo (l : List UInt8) (at_ n : Nat) : Nat → Nat → Nat × Bool
  | 0, k => (k, true)
  | f + 1, k => if k < n then (if tailB l at_ k = true then frGo l at_ n f (k + 1) else (k, false)) else (n, true)
def frontU (l : List UInt8) (at_ : Nat) : Nat × Bool := if uSize (bt l at_) = 0 then (0, false) else frGo l at_ (uSize (bt l at_)) 4 1
theorem uSize_le (c : Int) : uSize c ≤ 4 := by unfold uSize; (repeat' split) <;> omega
theorem frGo_le (l : List UInt8) (at_ n : Nat) : ∀ f k, k ≤ n → n ≤ f + k → at_ + k ≤ l.length → (frGo l at_ n f k).1 ≤ n ∧ at_ + (frGo l at_ n f k).1 ≤ l.length ∧ k ≤ (frGo l at_ n f k).1 ∧ ((frGo l at_ n f k).2 = true → (frGo l at_ n f k).1 = n)
  | 0, k, h, h2, h3 => ⟨h, h3, Nat.le_refl _, fun _ => by show k = n; omega⟩
  | f + 1, k, h, h2, h3 => by
    unfold frGo
    by_cases hk : k < n
    · rw [if_pos hk]
      by_cases ht : tailB l at_ k = true
      · rw [if_pos ht]
        have : at_ + (k + 1) ≤ l.length := by
          unfold tailB at ht
          simp only [Bool.and_eq_true, decide_eq_true_eq] at ht
          omega
        have ih := frGo_le l at_ n f (k + 1) (by omega) (by omega) this
        exact ⟨ih.1, ih.2.1, by omega, ih.2.2.2⟩
      · rw [if_neg ht]
        exact ⟨h, h3, Nat.le_refl _, fun h => by cases h⟩
    · rw [if_neg hk]
      have : k = n := by omega
      subst this
      exact ⟨Nat.le_refl _, h3, Nat.le_refl _, fun _ => rfl⟩
theorem front_le (l : List UInt8) (at_ : Nat) (h : at_ < l.length) : (frontU l at_).1 ≤ 4 ∧ at_ + (frontU l at_).1 ≤ l.length ∧ ((frontU l at_).2 = true → 1 ≤ (frontU l at_).1) := by
  unfold frontU
  have h4 := uSize_le (bt l at_)
  split
  · exact ⟨by simp, by simp; omega, fun h => by cases h⟩
  · have := frGo_le l at_ (uSize (bt l at_)) 4 1 (by omega) (by omega) (by omega)
    exact ⟨by omega, this.2.1, fun _ => this.2.2.1⟩
/-- How far a text can go that isn't well-formed; -1: it is. -/
def badGo (l : List UInt8) : Nat → Nat → Int
  | 0, _ => -1
  | f + 1, at_ => if at_ < l.length then (if (frontU l at_).2 = true then badGo l f (at_ + (frontU l at_).1) else (at_ : Int) + (frontU l at_).1) else -1
def badU (l : List UInt8) : Int := badGo l l.length 0
theorem badGo_bd (l : List UInt8) : ∀ f at_, at_ ≤ l.length → -1 ≤ badGo l f at_ ∧ badGo l f at_ ≤ l.length
  | 0, at_, _ => ⟨by simp [badGo], by simp only [badGo]; omega⟩
  | f + 1, at_, h => by
    unfold badGo
    split
    · rename_i hlt
      have hf := front_le l at_ hlt
      split
      · exact badGo_bd l f _ hf.2.1
      · omega
    · omega
theorem badU_bd (l : List UInt8) : -1 ≤ badU l ∧ badU l ≤ l.length := badGo_bd l _ _ (Nat.zero_le _)
end
section
def mkS (l : List UInt8) : ByteArray := ⟨l.toArray⟩
/-- Is there a byte at a place, and may it go on? -/
def pkB (l : List UInt8) (a : Nat) (no : Bool) : Bool := !no && decide (a < l.length)
/-- Is the next byte that one? -/
def isB (l : List UInt8) (a : Nat) (no : Bool) (c : Int) : Bool := pkB l a no && (bt l a == c)
def takeA (l : List UInt8) (a : Nat) (no : Bool) (c : Int) : Nat := if isB l a no c then a + 1 else a
/-- A word: how far, does it stop? -/
def wordS (l : List UInt8) : List UInt8 → Nat → Bool → Nat × Bool
  | [], a, no => (a, no)
  | c :: cs, a, no => if no then (a, true) else if isB l a false c.toNat then wordS l cs (a + 1) false else (a, true)
/-- Bytes of a class. -/
def whA (l : List UInt8) (p : Int → Bool) (a : Nat) : Nat := a + ((l.drop a).takeWhile fun c => p c.toNat).length
def someS (l : List UInt8) (p : Int → Bool) (a : Nat) (no : Bool) : Nat × Bool := if no then (a, true) else (whA l p a, whA l p a == a)
def digB (c : Int) : Bool := decide (48 ≤ c) && decide (c ≤ 57)
def letB (c : Int) : Bool := decide (97 ≤ c) && decide (c ≤ 122) || decide (65 ≤ c) && decide (c ≤ 90)
def numS (l : List UInt8) (a : Nat) (no : Bool) : Nat × Bool := if no then (a, true) else someS l digB (takeA l a false 45) false
def decS (l : List UInt8) (a : Nat) (no : Bool) : Nat × Bool :=
  if (numS l a no).2 then numS l a no else if isB l (numS l a no).1 false 46 then someS l digB ((numS l a no).1 + 1) false else numS l a no
/-- The bytes from a place up to another one. -/
def cutL (l : List UInt8) (a b : Nat) : List UInt8 := (l.drop a).take (b - a)
/-- Is there behind a place one of some signs? -/
def escB (l : List UInt8) (m : List UInt8) (a : Nat) : Bool := decide (a + 1 < l.length) && m.any fun c => bt l (a + 1) == c.toNat
/-- Scalars up to a byte that ends them. -/
def inkS (l : List UInt8) (e : Int) (m : List UInt8) (n : Int) : Nat → Nat → List UInt8 → List UInt8 × Nat × Bool
  | 0, a, acc => (acc, a, true)
  | f + 1, a, acc =>
    if l.length ≤ a then (acc, a, true)
    else if bt l a = e then (acc, a, false)
    else if bt l a = 10 then (acc, a, true)
    else if bt l a = 92 then (if escB l m a then inkS l e m n f (a + 2) (acc ++ [if bt l (a + 1) = n then 10 else l.getD (a + 1) 0]) else (acc, a + 1, true))
    else if (frontU l a).2 then inkS l e m n f (a + (frontU l a).1) (acc ++ cutL l a (a + (frontU l a).1))
    else (acc ++ cutL l a (a + (frontU l a).1), a + (frontU l a).1, true)
/-- Bytes from 33 to 126 but some; wide: scalars, too. -/
def sgnS (l : List UInt8) (m : List UInt8) (wide : Bool) : Nat → Nat → List UInt8 → List UInt8 × Nat × Bool
  | 0, a, acc => (acc, a, true)
  | f + 1, a, acc =>
    if l.length ≤ a then (acc, a, false)
    else if bt l a = 92 then (if escB l m a then sgnS l m wide f (a + 2) (acc ++ [l.getD (a + 1) 0]) else (acc, a + 1, true))
    else if wide = true ∧ 127 < bt l a then (if (frontU l a).2 then sgnS l m wide f (a + (frontU l a).1) (acc ++ cutL l a (a + (frontU l a).1)) else (acc ++ cutL l a (a + (frontU l a).1), a + (frontU l a).1, true))
    else if 32 < bt l a ∧ bt l a < 127 ∧ (m.any fun c => bt l a == c.toNat) = false then sgnS l m wide f (a + 1) (acc ++ [l.getD a 0])
    else (acc, a, false)
def ink (l : List UInt8) (e : Int) (m : List UInt8) (n : Int) (a : Nat) (no : Bool) : List UInt8 × Nat × Bool := if no then ([], a, true) else inkS l e m n (l.length + 1) a []
def sgn (l : List UInt8) (m : List UInt8) (wide : Bool) (a : Nat) (no : Bool) : List UInt8 × Nat × Bool :=
  if no then ([], a, true) else ((sgnS l m wide (l.length + 1) a []).1, (sgnS l m wide (l.length + 1) a []).2.1, (sgnS l m wide (l.length + 1) a []).2.2 || (sgnS l m wide (l.length + 1) a []).2.1 == a)
/-- What Inked tells: nothing, if it stops. -/
def inkV (l : List UInt8) (e : Int) (m : List UInt8) (n : Int) (a : Nat) (no : Bool) : List UInt8 := if (ink l e m n a no).2.2 then [] else (ink l e m n a no).1
theorem pkB_bt {l : List UInt8} {a : Nat} (h : a < l.length) : pkB l a false = true := by simp [pkB, h]
theorem pkB_end {l : List UInt8} {a : Nat} {no : Bool} (h : l.length ≤ a) : pkB l a no = false := by simp [pkB]; intro _; omega
theorem isB_no (l : List UInt8) (a : Nat) (c : Int) : isB l a true c = false := rfl
theorem isB_lt {l : List UInt8} {a : Nat} {no : Bool} {c : Int} (h : isB l a no c = true) : a < l.length ∧ no = false ∧ bt l a = c := by
  simpa [isB, pkB, and_assoc, and_comm, and_left_comm] using h
theorem wordS_le (l : List UInt8) : ∀ w a no, a ≤ l.length → a ≤ (wordS l w a no).1 ∧ (wordS l w a no).1 ≤ l.length
  | [], a, no, h => ⟨Nat.le_refl _, h⟩
  | c :: cs, a, no, h => by
    unfold wordS
    split
    · exact ⟨Nat.le_refl _, h⟩
    · split
      · rename_i hi
        have := (isB_lt hi).1
        have ih := wordS_le l cs (a + 1) false (by omega)
        exact ⟨by omega, ih.2⟩
      · exact ⟨Nat.le_refl _, h⟩
theorem whA_le (l : List UInt8) (p : Int → Bool) (a : Nat) (h : a ≤ l.length) : a ≤ whA l p a ∧ whA l p a ≤ l.length := by
  unfold whA
  have : ((l.drop a).takeWhile fun c => p c.toNat).length ≤ (l.drop a).length := List.Sublist.length_le (List.takeWhile_sublist _)
  rw [List.length_drop] at this
  omega
theorem someS_le (l : List UInt8) (p : Int → Bool) (a : Nat) (no : Bool) (h : a ≤ l.length) : a ≤ (someS l p a no).1 ∧ (someS l p a no).1 ≤ l.length := by
  unfold someS
  split
  · exact ⟨Nat.le_refl _, h⟩
  · exact whA_le l p a h
theorem takeA_le (l : List UInt8) (a : Nat) (no : Bool) (c : Int) (h : a ≤ l.length) : a ≤ takeA l a no c ∧ takeA l a no c ≤ l.length := by
  unfold takeA
  split
  · rename_i hi
    have := (isB_lt hi).1
    omega
  · omega
theorem numS_le (l : List UInt8) (a : Nat) (no : Bool) (h : a ≤ l.length) : a ≤ (numS l a no).1 ∧ (numS l a no).1 ≤ l.length := by
  unfold numS
  split
  · exact ⟨Nat.le_refl _, h⟩
  · have h1 := takeA_le l a false 45 h
    have h2 := someS_le l digB (takeA l a false 45) false h1.2
    omega
theorem decS_le (l : List UInt8) (a : Nat) (no : Bool) (h : a ≤ l.length) : a ≤ (decS l a no).1 ∧ (decS l a no).1 ≤ l.length := by
  unfold decS
  have h1 := numS_le l a no h
  split
  · exact h1
  · split
    · rename_i hi
      have := (isB_lt hi).1
      have h2 := someS_le l digB ((numS l a no).1 + 1) false (by omega)
      omega
    · exact h1
theorem cutL_len (l : List UInt8) (a b : Nat) (h : b ≤ l.length) : (cutL l a b).length = b - a := by
  unfold cutL; rw [List.length_take, List.length_drop]; omega
/-- A step of the class: the next byte is one. -/
theorem whA_yes {l : List UInt8} {p : Int → Bool} {a : Nat} (h : a < l.length) (k : p (bt l a) = true) : whA l p a = whA l p (a + 1) := by
  unfold whA
  rw [List.drop_eq_getElem_cons h, List.takeWhile_cons, if_pos (by rw [← bt_get h]; exact k)]
  simp; omega
theorem whA_no {l : List UInt8} {p : Int → Bool} {a : Nat} (h : a < l.length) (k : p (bt l a) = false) : whA l p a = a := by
  unfold whA
  rw [List.drop_eq_getElem_cons h, List.takeWhile_cons, if_neg (by rw [← bt_get h, k]; simp)]
  simp
theorem whA_end {l : List UInt8} {p : Int → Bool} {a : Nat} (h : l.length ≤ a) : whA l p a = a := by
  unfold whA; rw [List.drop_of_length_le h]; simp
theorem escB_lt {l m : List UInt8} {a : Nat} (h : escB l m a = true) : a + 1 < l.length := by
  simp [escB] at h; exact h.1
theorem inkS_le (l : List UInt8) (e : Int) (m : List UInt8) (n : Int) : ∀ f a acc, a ≤ l.length → a ≤ (inkS l e m n f a acc).2.1 ∧ (inkS l e m n f a acc).2.1 ≤ l.length ∧ (inkS l e m n f a acc).1.length ≤ acc.length + ((inkS l e m n f a acc).2.1 - a)
  | 0, a, acc, h => ⟨Nat.le_refl _, h, by simp [inkS]⟩
  | f + 1, a, acc, h => by
    unfold inkS
    by_cases h1 : l.length ≤ a
    · rw [if_pos h1]; exact ⟨Nat.le_refl _, h, by simp⟩
    rw [if_neg h1]
    by_cases h2 : bt l a = e
    · rw [if_pos h2]; exact ⟨Nat.le_refl _, h, by simp⟩
    rw [if_neg h2]
    by_cases h3 : bt l a = 10
    · rw [if_pos h3]; exact ⟨Nat.le_refl _, h, by simp⟩
    rw [if_neg h3]
    have hf := front_le l a (by omega)
    by_cases h4 : bt l a = 92
    · rw [if_pos h4]
      by_cases h5 : escB l m a = true
      · rw [if_pos h5]
        have := escB_lt h5
        have ih := inkS_le l e m n f (a + 2) (acc ++ [if bt l (a + 1) = n then 10 else l.getD (a + 1) 0]) (by omega)
        rw [List.length_append] at ih
        simp only [List.length_singleton] at ih
        exact ⟨by omega, ih.2.1, by omega⟩
      · rw [if_neg h5]; exact ⟨by simp, by simp; omega, by simp⟩
    rw [if_neg h4]
    by_cases h5 : (frontU l a).2 = true
    · rw [if_pos h5]
      have ih := inkS_le l e m n f (a + (frontU l a).1) (acc ++ cutL l a (a + (frontU l a).1)) hf.2.1
      rw [List.length_append, cutL_len l a _ hf.2.1] at ih
      exact ⟨by omega, ih.2.1, by omega⟩
    · rw [if_neg h5]; exact ⟨by simp, hf.2.1, by simp only [List.length_append, cutL_len l a _ hf.2.1]; omega⟩
theorem sgnS_le (l : List UInt8) (m : List UInt8) (wide : Bool) : ∀ f a acc, a ≤ l.length → a ≤ (sgnS l m wide f a acc).2.1 ∧ (sgnS l m wide f a acc).2.1 ≤ l.length ∧ (sgnS l m wide f a acc).1.length ≤ acc.length + ((sgnS l m wide f a acc).2.1 - a)
  | 0, a, acc, h => ⟨Nat.le_refl _, h, by simp [sgnS]⟩
  | f + 1, a, acc, h => by
    unfold sgnS
    by_cases h1 : l.length ≤ a
    · rw [if_pos h1]; exact ⟨Nat.le_refl _, h, by simp⟩
    rw [if_neg h1]
    have hf := front_le l a (by omega)
    by_cases h4 : bt l a = 92
    · rw [if_pos h4]
      by_cases h5 : escB l m a = true
      · rw [if_pos h5]
        have := escB_lt h5
        have ih := sgnS_le l m wide f (a + 2) (acc ++ [l.getD (a + 1) 0]) (by omega)
        rw [List.length_append] at ih
        simp only [List.length_singleton] at ih
        exact ⟨by omega, ih.2.1, by omega⟩
      · rw [if_neg h5]; exact ⟨by simp, by simp; omega, by simp⟩
    rw [if_neg h4]
    by_cases h2 : wide = true ∧ 127 < bt l a
    · rw [if_pos h2]
      by_cases h5 : (frontU l a).2 = true
      · rw [if_pos h5]
        have ih := sgnS_le l m wide f (a + (frontU l a).1) (acc ++ cutL l a (a + (frontU l a).1)) hf.2.1
        rw [List.length_append, cutL_len l a _ hf.2.1] at ih
        exact ⟨by omega, ih.2.1, by omega⟩
      · rw [if_neg h5]; exact ⟨by simp, hf.2.1, by simp only [List.length_append, cutL_len l a _ hf.2.1]; omega⟩
    rw [if_neg h2]
    by_cases h3 : 32 < bt l a ∧ bt l a < 127 ∧ (m.any fun c => bt l a == c.toNat) = false
    · rw [if_pos h3]
      have ih := sgnS_le l m wide f (a + 1) (acc ++ [l.getD a 0]) (by omega)
      rw [List.length_append] at ih
      simp only [List.length_singleton] at ih
      exact ⟨by omega, ih.2.1, by omega⟩
    · rw [if_neg h3]; exact ⟨Nat.le_refl _, h, by simp⟩
theorem ink_le (l : List UInt8) (e : Int) (m : List UInt8) (n : Int) (a : Nat) (no : Bool) (h : a ≤ l.length) : a ≤ (ink l e m n a no).2.1 ∧ (ink l e m n a no).2.1 ≤ l.length ∧ (ink l e m n a no).1.length ≤ (ink l e m n a no).2.1 - a := by
  unfold ink
  split
  · exact ⟨Nat.le_refl _, h, by simp⟩
  · have := inkS_le l e m n (l.length + 1) a [] h
    simpa using this
theorem sgn_le (l : List UInt8) (m : List UInt8) (wide : Bool) (a : Nat) (no : Bool) (h : a ≤ l.length) : a ≤ (sgn l m wide a no).2.1 ∧ (sgn l m wide a no).2.1 ≤ l.length ∧ (sgn l m wide a no).1.length ≤ (sgn l m wide a no).2.1 - a := by
  unfold sgn
  split
  · exact ⟨Nat.le_refl _, h, by simp⟩
  · have := sgnS_le l m wide (l.length + 1) a [] h
    simpa using this
end
section
structure MTag where
  name : ByteArray
  value : ByteArray
  off : Nat
  pos : Nat
deriving Inhabited
structure MField where
  name : ByteArray
  value : ByteArray
  off : Nat
  pos : Nat
  kind : Nat
deriving Inhabited
structure MRow where
  kind : Nat
  name : ByteArray
  off : Nat
  tags : List MTag
  fields : List MField
  text : ByteArray
  pos : Nat
  timed : Bool
  time : ByteArray
  when_ : Nat
deriving Inhabited
def tagCell (t : MTag) : List Value := [.string t.name, .string t.value, .int .i64 t.off, .int .i64 t.pos]
def fieldCell (f : MField) : List Value := [.string f.name, .string f.value, .int .i64 f.off, .int .i64 f.pos, .int .i64 f.kind]
/-- A row and where its tags, its fields lie. -/
structure VRow where
  row : MRow
  tA : Option Addr
  tc : Nat
  fA : Option Addr
  fc : Nat
def rowCell (x : VRow) : List Value := [.int .i64 x.row.kind, .string x.row.name, .int .i64 x.row.off, .slice x.tA x.row.tags.length x.tc, .slice x.fA x.row.fields.length x.fc, .string x.row.text, .int .i64 x.row.pos, .bool x.row.timed, .string x.row.time, .int .i64 x.row.when_]
theorem rowCell_len (x : VRow) : (rowCell x).length = 10 := rfl
end
section
def owLabel (c : Int) : Bool := letB c || (digB c || c == 95)
def owName (c : Int) : Bool := letB c || (digB c || (c == 95 || c == 58))
def smB (c : Int) : Bool := decide (97 ≤ c) && decide (c ≤ 122)
def stName (c : Int) : Bool := letB c || (digB c || (c == 95 || (c == 45 || c == 46)))
def stInk (c : Int) : Bool := decide (32 < c) && (decide (c < 127) && !(c == 124))
def stValue (c : Int) : Bool := stInk c && !(c == 44)
def dtNode (c : Int) : Bool := letB c || (digB c || (c == 95 || (c == 45 || c == 58)))
def tmInk (c : Int) : Bool := decide (32 < c) && (decide (c < 127) && (!(c == 59) && !(c == 44)))
def dtInk (c : Int) : Bool := decide (32 < c) && (decide (c < 127) && !(c == 59))
end
section
def wEq : List UInt8 := [61, 34]
def inV : List UInt8 := [92, 34, 110]
def inH : List UInt8 := [92, 110]
def wHash : List UInt8 := [35, 32]
def wEOF : List UInt8 := [69, 79, 70]
def wType : List UInt8 := [84, 89, 80, 69, 32]
def wUnit : List UInt8 := [85, 78, 73, 84, 32]
def wHelp : List UInt8 := [72, 69, 76, 80, 32]
/-- Bytes of a class, the first one no digit. -/
def nmS (l : List UInt8) (p : Int → Bool) (a : Nat) (no : Bool) : Nat × Bool := someS l p a (no || (pkB l a no && digB (bt l a)))
/-- A label: its name, =", its value, ". -/
def otagS (l : List UInt8) (a : Nat) (no : Bool) : MTag × Nat × Bool :=
  let k := nmS l owLabel a no
  let e := wordS l wEq k.1 k.2
  let v := ink l 34 inV 110 e.1 e.2
  let q := wordS l [34] v.2.1 v.2.2
  (⟨mkS (cutL l a k.1), mkS (inkV l 34 inV 110 e.1 e.2), a, e.1⟩, q)
def otagsGo (l : List UInt8) : Nat → Nat → Bool → List MTag → List MTag × Nat × Bool
  | 0, a, _, acc => (acc, a, true)
  | f + 1, a, no, acc => if no then (acc, a, true) else if isB l (otagS l a false).2.1 (otagS l a false).2.2 44 then otagsGo l f ((otagS l a false).2.1 + 1) false (acc ++ [(otagS l a false).1]) else (acc ++ [(otagS l a false).1], (otagS l a false).2)
def otagsS (l : List UInt8) (a : Nat) (no : Bool) : List MTag × Nat × Bool :=
  if isB l a no 123 then
    if isB l (a + 1) false 125 then ([], a + 2, false)
    else
      let t := otagsGo l (l.length + 1) (a + 1) false []
      (t.1, wordS l [125] t.2.1 t.2.2)
  else ([], a, no)
def sampS (l : List UInt8) (a : Nat) (no : Bool) : MRow × Nat × Bool :=
  let n := nmS l owName a no
  let t := otagsS l n.1 n.2
  let w := wordS l [32] t.2.1 t.2.2
  let d := decS l w.1 w.2
  if isB l d.1 d.2 32 then
    (⟨0, mkS (cutL l a n.1), a, t.1, [], mkS (cutL l w.1 d.1), w.1, true, mkS (cutL l (d.1 + 1) (decS l (d.1 + 1) false).1), d.1 + 1⟩, wordS l [10] (decS l (d.1 + 1) false).1 (decS l (d.1 + 1) false).2)
  else (⟨0, mkS (cutL l a n.1), a, t.1, [], mkS (cutL l w.1 d.1), w.1, false, mkS [], 0⟩, wordS l [10] d.1 d.2)
/-- What is told of a family, by its kind: the text's end. -/
def otextS (l : List UInt8) (kind a : Nat) (no : Bool) : List UInt8 × Nat × Bool :=
  if kind = 1 then (cutL l a (someS l smB a no).1, someS l smB a no)
  else if kind = 2 then (cutL l a (someS l owName a no).1, someS l owName a no)
  else (inkV l 10 inH 110 a no, (ink l 10 inH 110 a no).2)
def otoldS (l : List UInt8) (kind : Nat) (word : List UInt8) (a : Nat) (no : Bool) : MRow × Nat × Bool :=
  let w := wordS l word a no
  let n := nmS l owName w.1 w.2
  let b := wordS l [32] n.1 n.2
  let t := otextS l kind b.1 b.2
  (⟨kind, mkS (cutL l w.1 n.1), w.1, [], [], mkS t.1, b.1, false, mkS [], 0⟩, wordS l [10] t.2.1 t.2.2)
/-- A line: its row, if it has one; is it the last? -/
def olineS (l : List UInt8) (a : Nat) : (Option MRow × Bool) × Nat × Bool :=
  if isB l a false 35 then
    let w := wordS l wHash a false
    if isB l w.1 w.2 84 then ((some (otoldS l 1 wType w.1 w.2).1, false), (otoldS l 1 wType w.1 w.2).2)
    else if isB l w.1 w.2 85 then ((some (otoldS l 2 wUnit w.1 w.2).1, false), (otoldS l 2 wUnit w.1 w.2).2)
    else if isB l w.1 w.2 72 then ((some (otoldS l 3 wHelp w.1 w.2).1, false), (otoldS l 3 wHelp w.1 w.2).2)
    else ((none, true), wordS l wEOF w.1 w.2)
  else ((some (sampS l a false).1, false), (sampS l a false).2)
def orowsGo (l : List UInt8) : Nat → Nat → List MRow → List MRow × Nat × Bool
  | 0, a, acc => (acc, a, true)
  | f + 1, a, acc =>
    if (olineS l a).1.2 then (acc ++ (olineS l a).1.1.toList, (olineS l a).2)
    else if (olineS l a).2.2 then (acc ++ (olineS l a).1.1.toList, (olineS l a).2.1, true)
    else orowsGo l f (olineS l a).2.1 (acc ++ (olineS l a).1.1.toList)
/-- What stands behind the last line: a line feed, or nothing. -/
def oendS (l : List UInt8) (a : Nat) (no : Bool) : Nat × Bool :=
  let w := if !no && !(a == l.length) then wordS l [10] a no else (a, no)
  (w.1, if w.1 == l.length then w.2 else true)
def openRows (l : List UInt8) : List MRow × Nat × Bool :=
  ((orowsGo l (l.length + 2) 0 []).1, oendS l (orowsGo l (l.length + 2) 0 []).2.1 (orowsGo l (l.length + 2) 0 []).2.2)
def openBad (l : List UInt8) : Int := if (openRows l).2.2 then ((openRows l).2.1 : Int) else -1
section
variable {l : List UInt8}
theorem nmS_le (p : Int → Bool) {a : Nat} (no : Bool) (h : a ≤ l.length) : a ≤ (nmS l p a no).1 ∧ (nmS l p a no).1 ≤ l.length := someS_le l p a _ h
theorem otagS_le {a : Nat} (no : Bool) (h : a ≤ l.length) : a ≤ (otagS l a no).2.1 ∧ (otagS l a no).2.1 ≤ l.length := by
  unfold otagS
  have h1 := nmS_le (l := l) owLabel no h
  have h2 := wordS_le l wEq (nmS l owLabel a no).1 (nmS l owLabel a no).2 h1.2
  have h3 := ink_le l 34 inV 110 _ (wordS l wEq (nmS l owLabel a no).1 (nmS l owLabel a no).2).2 h2.2
  have h4 := wordS_le l [34] _ (ink l 34 inV 110 (wordS l wEq (nmS l owLabel a no).1 (nmS l owLabel a no).2).1 (wordS l wEq (nmS l owLabel a no).1 (nmS l owLabel a no).2).2).2.2 h3.2.1
  simp only
  omega
theorem otagsGo_le : ∀ f a no acc, a ≤ l.length → a ≤ (otagsGo l f a no acc).2.1 ∧ (otagsGo l f a no acc).2.1 ≤ l.length
  | 0, a, no, acc, h => ⟨Nat.le_refl _, h⟩
  | f + 1, a, no, acc, h => by
    unfold otagsGo
    split
    · exact ⟨Nat.le_refl _, h⟩
    · have h1 := otagS_le (l := l) false h
      split
      · rename_i hi
        have := (isB_lt hi).1
        have ih := otagsGo_le f ((otagS l a false).2.1 + 1) false (acc ++ [(otagS l a false).1]) (by omega)
        omega
      · exact h1
theorem otagsS_le {a : Nat} (no : Bool) (h : a ≤ l.length) : a ≤ (otagsS l a no).2.1 ∧ (otagsS l a no).2.1 ≤ l.length := by
  unfold otagsS
  split
  · rename_i hi
    have := (isB_lt hi).1
    split
    · rename_i hj
      have := (isB_lt hj).1
      exact ⟨by simp, by simp; omega⟩
    · have h1 := otagsGo_le (l := l) (l.length + 1) (a + 1) false [] (by omega)
      have h2 := wordS_le l [125] _ (otagsGo l (l.length + 1) (a + 1) false []).2.2 h1.2
      simp only
      omega
  · exact ⟨Nat.le_refl _, h⟩
theorem sampS_le {a : Nat} (no : Bool) (h : a ≤ l.length) : a ≤ (sampS l a no).2.1 ∧ (sampS l a no).2.1 ≤ l.length := by
  unfold sampS
  simp only
  have h1 := nmS_le (l := l) owName no h
  generalize nmS l owName a no = n at h1 ⊢
  have h2 := otagsS_le (l := l) n.2 h1.2
  generalize otagsS l n.1 n.2 = t at h2 ⊢
  have h3 := wordS_le l [32] t.2.1 t.2.2 h2.2
  generalize wordS l [32] t.2.1 t.2.2 = w at h3 ⊢
  have h4 := decS_le l w.1 w.2 h3.2
  generalize decS l w.1 w.2 = d at h4 ⊢
  split
  · rename_i hi
    have := (isB_lt hi).1
    have h5 := decS_le l (d.1 + 1) false (by omega)
    have h6 := wordS_le l [10] _ (decS l (d.1 + 1) false).2 h5.2
    simp only
    omega
  · have h6 := wordS_le l [10] d.1 d.2 h4.2
    simp only
    omega
theorem otextS_le {kind a : Nat} (no : Bool) (h : a ≤ l.length) : a ≤ (otextS l kind a no).2.1 ∧ (otextS l kind a no).2.1 ≤ l.length := by
  unfold otextS
  split
  · exact someS_le l smB a no h
  split
  · exact someS_le l owName a no h
  · have := ink_le l 10 inH 110 a no h
    exact ⟨this.1, this.2.1⟩
theorem otoldS_le {kind : Nat} {word : List UInt8} {a : Nat} (no : Bool) (h : a ≤ l.length) : a ≤ (otoldS l kind word a no).2.1 ∧ (otoldS l kind word a no).2.1 ≤ l.length := by
  unfold otoldS
  simp only
  have h1 := wordS_le l word a no h
  generalize wordS l word a no = w at h1 ⊢
  have h2 := nmS_le (l := l) owName w.2 h1.2
  generalize nmS l owName w.1 w.2 = n at h2 ⊢
  have h3 := wordS_le l [32] n.1 n.2 h2.2
  generalize wordS l [32] n.1 n.2 = b at h3 ⊢
  have h4 := otextS_le (l := l) (kind := kind) b.2 h3.2
  generalize otextS l kind b.1 b.2 = t at h4 ⊢
  have h5 := wordS_le l [10] t.2.1 t.2.2 h4.2
  omega
theorem olineS_le {a : Nat} (h : a ≤ l.length) : a ≤ (olineS l a).2.1 ∧ (olineS l a).2.1 ≤ l.length := by
  unfold olineS
  split
  · have h1 := wordS_le l wHash a false h
    simp only
    generalize wordS l wHash a false = w at h1 ⊢
    have h2 := otoldS_le (l := l) (kind := 1) (word := wType) w.2 h1.2
    have h3 := otoldS_le (l := l) (kind := 2) (word := wUnit) w.2 h1.2
    have h4 := otoldS_le (l := l) (kind := 3) (word := wHelp) w.2 h1.2
    have h5 := wordS_le l wEOF w.1 w.2 h1.2
    split
    · simp only; omega
    split
    · simp only; omega
    split
    · simp only; omega
    · simp only; omega
  · exact sampS_le false h
theorem orowsGo_le : ∀ f a acc, a ≤ l.length → a ≤ (orowsGo l f a acc).2.1 ∧ (orowsGo l f a acc).2.1 ≤ l.length
  | 0, a, acc, h => ⟨Nat.le_refl _, h⟩
  | f + 1, a, acc, h => by
    have h1 := olineS_le (l := l) h
    unfold orowsGo
    split
    · exact h1
    split
    · exact h1
    · have ih := orowsGo_le f (olineS l a).2.1 (acc ++ (olineS l a).1.1.toList) h1.2
      omega
end
end
section
/-- Is there a minus ahead? -/
def minusD (l : List UInt8) : Bool := bt l 0 == 45
def startD (l : List UInt8) : Nat := if minusD l then 1 else 0
/-- The digits ahead of a point, and behind it; else how far the text can go. -/
def cutD (l : List UInt8) : Option (List UInt8 × List UInt8) × Nat :=
  if whA l digB (startD l) == startD l || (decide (whA l digB (startD l) < l.length) && !(bt l (whA l digB (startD l)) == 46)) then (none, whA l digB (startD l))
  else if whA l digB (startD l) == l.length then (some (cutL l (startD l) (whA l digB (startD l)), []), whA l digB (startD l))
  else if whA l digB (whA l digB (startD l) + 1) == whA l digB (startD l) + 1 || decide (whA l digB (whA l digB (startD l) + 1) < l.length) then (none, whA l digB (whA l digB (startD l) + 1))
  else (some (cutL l (startD l) (whA l digB (startD l)), cutL l (whA l digB (startD l) + 1) (whA l digB (whA l digB (startD l) + 1))), whA l digB (whA l digB (startD l) + 1))
/-- The number that digits are; none: it is too great. -/
def numD : Nat → List UInt8 → Option Nat
  | n, [] => some n
  | n, c :: cs => if (9223372036854775807 - (c.toNat - 48)) / 10 < n then none else numD (n * 10 + (c.toNat - 48)) cs
def trimL0 (l : List UInt8) : List UInt8 := l.dropWhile (· == 48)
def trimR0 (l : List UInt8) : List UInt8 := (l.reverse.dropWhile (· == 48)).reverse
/-- A decimal (its number, how many digits behind the point), what is wrong (0: nothing), how far the text can go. -/
def parseD (l : List UInt8) : (Int × Nat) × Nat × Nat :=
  match cutD l with
  | (none, a) => ((0, 0), 11, a)
  | (some (w, p), _) =>
    match numD 0 (trimL0 w ++ trimR0 p) with
    | none => ((0, 0), 12, 0)
    | some m => if 18 < (trimR0 p).length then ((0, 0), 12, 0) else ((if minusD l then -(m : Int) else (m : Int), (trimR0 p).length), 0, 0)
theorem trimR0_len (l : List UInt8) : (trimR0 l).length ≤ l.length := by
  unfold trimR0
  rw [List.length_reverse]
  have := (List.dropWhile_sublist (l := l.reverse) (· == 48)).length_le
  simpa using this
theorem trimL0_len (l : List UInt8) : (trimL0 l).length ≤ l.length := (List.dropWhile_sublist (l := l) (· == 48)).length_le
theorem numD_le : ∀ (l : List UInt8) (n m : Nat), n ≤ 9223372036854775807 → (∀ c ∈ l, c.toNat ≤ 57) → numD n l = some m → m ≤ 9223372036854775807
  | [], n, m, h, _, e => by simp [numD] at e; omega
  | c :: cs, n, m, h, hc, e => by
    unfold numD at e
    split at e
    · cases e
    · have h1 := hc c List.mem_cons_self
      exact numD_le cs _ m (by omega) (fun d hd => hc d (List.mem_cons_of_mem _ hd)) e
end
section
abbrev Lab := ByteArray × ByteArray
def labCell (x : Lab) : List Value := [.string x.1, .string x.2]
def nmL (x : Lab) : List UInt8 := x.1.data.toList
def vlL (x : Lab) : List UInt8 := x.2.data.toList
/-- May a text be a name? -/
def inkB (l : List UInt8) : Bool := l.all fun c => decide (32 ≤ c.toNat) && decide (c.toNat ≠ 127)
def nameB (l : List UInt8) : Bool := inkB l && (decide (l ≠ []) && (decide (l.length ≤ 60) && decide (badU l < 0)))
def valB (l : List UInt8) : Bool := decide (l.length ≤ 60) && decide (badU l < 0)
theorem inkB_iff (l : List UInt8) : inkB l = true ↔ ∀ j, j < l.length → 32 ≤ bt l j ∧ bt l j ≠ 127 := by
  unfold inkB
  rw [List.all_eq_true]
  constructor
  · intro h j hj
    have := h _ (List.getElem_mem hj)
    simp only [Bool.and_eq_true, decide_eq_true_eq] at this
    rw [bt_get hj]; omega
  · intro h c hc
    obtain ⟨j, hj, rfl⟩ := List.getElem_of_mem hc
    have := h j hj
    rw [bt_get hj] at this
    simp only [Bool.and_eq_true, decide_eq_true_eq]; omega
/-- May labels be? -/
def goodAt (L : List Lab) (i : Nat) : Bool := nameB (nmL (L.getD i default)) && (valB (vlL (L.getD i default)) && (decide (i = 0) || decide (nmL (L.getD (i - 1) default) < nmL (L.getD i default))))
def goodTo (L : List Lab) (k : Nat) : Bool := (List.range k).all (goodAt L)
def goodL (L : List Lab) : Bool := goodTo L L.length && decide (L.length ≤ 8)
theorem goodTo_succ (L : List Lab) (k : Nat) : goodTo L (k + 1) = (goodTo L k && goodAt L k) := by
  unfold goodTo; rw [List.range_succ, List.all_append]; simp
theorem goodTo_false {L : List Lab} {k n : Nat} (h : goodAt L k = false) (hk : k < n) : goodTo L n = false := by
  unfold goodTo
  rw [List.all_eq_false]
  exact ⟨k, List.mem_range.2 hk, by rw [h]; exact Bool.false_ne_true⟩
/-- The first one of a name. -/
def getL (L : List Lab) (n : List UInt8) : Option Lab := L.find? fun x => nmL x == n
def getV (r : Option Lab) : ByteArray := match r with
  | some x => x.2
  | none => ⟨#[]⟩
/-- Those without some names. -/
def outL (L : List Lab) (names : List ByteArray) : List Lab := L.filter fun x => !(names.any fun n => n.data.toList == nmL x)
/-! ### which of two texts, labels, rows is less -/
theorem cmpB_tri : ∀ a b : List UInt8, (a < b → Lib.compareBytes a b = -1) ∧ (a = b → Lib.compareBytes a b = 0) ∧ (b < a → Lib.compareBytes a b = 1)
  | [], [] => ⟨fun h => absurd h (List.lt_irrefl _), fun _ => rfl, fun h => absurd h (List.lt_irrefl _)⟩
  | [], y :: b => ⟨fun _ => rfl, fun h => by (cases h), fun h => absurd h (by simp)⟩
  | x :: a, [] => ⟨fun h => absurd h (by simp), fun h => by (cases h), fun _ => rfl⟩
  | x :: a, y :: b => by
    have ih := cmpB_tri a b
    rw [Lib.compareBytes]
    refine ⟨fun h => ?_, fun h => ?_, fun h => ?_⟩
    · rcases (List.cons_lt_cons_iff).1 h with h | ⟨rfl, h2⟩
      · rw [if_pos h]
      · rw [if_neg (UInt8.lt_irrefl _), if_neg (UInt8.lt_irrefl _)]; exact ih.1 h2
    · injection h with h1 h2
      subst h1; subst h2
      rw [if_neg (UInt8.lt_irrefl _), if_neg (UInt8.lt_irrefl _)]; exact ih.2.1 rfl
    · rcases (List.cons_lt_cons_iff).1 h with h | ⟨rfl, h2⟩
      · rw [if_neg (fun k => absurd (UInt8.lt_trans h k) (UInt8.lt_irrefl _)), if_pos h]
      · rw [if_neg (UInt8.lt_irrefl _), if_neg (UInt8.lt_irrefl _)]; exact ih.2.2 h2
theorem bs3 (a b : List UInt8) : a < b ∨ a = b ∨ b < a := by
  by_cases h : a < b
  · exact .inl h
  · by_cases k : b < a
    · exact .inr (.inr k)
    · exact .inr (.inl (List.le_antisymm (List.not_lt.1 k) (List.not_lt.1 h)))
theorem cmpB_neg (a b : List UInt8) : Lib.compareBytes a b < 0 ↔ a < b := by
  have h := cmpB_tri a b
  rcases bs3 a b with k | k | k
  · simp [h.1 k, k]
  · rw [h.2.1 k]; subst k; simp [List.lt_irrefl]
  · rw [h.2.2 k]; simp; exact List.le_of_lt k
theorem cmpB_zero (a b : List UInt8) : Lib.compareBytes a b = 0 ↔ a = b := by
  have h := cmpB_tri a b
  rcases bs3 a b with k | k | k
  · rw [h.1 k]; simp; rintro rfl; exact List.lt_irrefl _ k
  · exact ⟨fun _ => k, fun _ => h.2.1 k⟩
  · rw [h.2.2 k]; simp; rintro rfl; exact List.lt_irrefl _ k
theorem cmpB_swap (a b : List UInt8) : Lib.compareBytes b a = - Lib.compareBytes a b := by
  have h := cmpB_tri a b
  have g := cmpB_tri b a
  rcases bs3 a b with k | k | k
  · rw [h.1 k, g.2.2 k]; rfl
  · rw [h.2.1 k, g.2.1 k.symm]; rfl
  · rw [h.2.2 k, g.1 k]
theorem cmpB_bd (a b : List UInt8) : -1 ≤ Lib.compareBytes a b ∧ Lib.compareBytes a b ≤ 1 := by
  have h := cmpB_tri a b
  rcases bs3 a b with k | k | k
  · rw [h.1 k]; omega
  · rw [h.2.1 k]; omega
  · rw [h.2.2 k]; omega
/-- Of two labels: by names, then by values. -/
def cmpLab (x y : Lab) : Int := if Lib.compareBytes (nmL x) (nmL y) ≠ 0 then Lib.compareBytes (nmL x) (nmL y) else Lib.compareBytes (vlL x) (vlL y)
theorem cmpLab_bd (x y : Lab) : -1 ≤ cmpLab x y ∧ cmpLab x y ≤ 1 := by
  unfold cmpLab; split
  · exact cmpB_bd _ _
  · exact cmpB_bd _ _
theorem cmpLab_swap (x y : Lab) : cmpLab y x = - cmpLab x y := by
  unfold cmpLab
  rw [cmpB_swap (nmL x) (nmL y), cmpB_swap (vlL x) (vlL y)]
  split <;> split <;> omega
theorem lab_ext {x y : Lab} (h : nmL x = nmL y) (k : vlL x = vlL y) : x = y := by
  obtain ⟨⟨⟨a⟩⟩, ⟨⟨b⟩⟩⟩ := x
  obtain ⟨⟨⟨c⟩⟩, ⟨⟨d⟩⟩⟩ := y
  simp only [nmL, vlL] at h k
  subst h; subst k; rfl
theorem cmpLab_zero (x y : Lab) : cmpLab x y = 0 ↔ x = y := by
  unfold cmpLab
  split
  · rename_i h
    exact ⟨fun k => absurd k h, fun k => absurd ((cmpB_zero _ _).2 (by rw [k])) h⟩
  · rename_i h
    have h := (cmpB_zero _ _).1 (Decidable.not_not.1 h)
    rw [cmpB_zero]
    exact ⟨fun k => lab_ext h k, fun k => by rw [k]⟩
/-- Of two rows: one by one, a row's beginning ahead. -/
def cmpRow : List Lab → List Lab → Int
  | [], [] => 0
  | [], _ :: _ => -1
  | _ :: _, [] => 1
  | x :: a, y :: b => if cmpLab x y ≠ 0 then cmpLab x y else cmpRow a b
theorem cmpRow_bd : ∀ a b : List Lab, -1 ≤ cmpRow a b ∧ cmpRow a b ≤ 1
  | [], [] => by simp [cmpRow]
  | [], _ :: _ => by simp [cmpRow]
  | _ :: _, [] => by simp [cmpRow]
  | x :: a, y :: b => by
    rw [cmpRow]
    have := cmpLab_bd x y
    have := cmpRow_bd a b
    split <;> omega
theorem cmpRow_swap : ∀ a b : List Lab, cmpRow b a = - cmpRow a b
  | [], [] => rfl
  | [], _ :: _ => rfl
  | _ :: _, [] => rfl
  | x :: a, y :: b => by
    rw [cmpRow, cmpRow, cmpLab_swap x y, cmpRow_swap a b]
    split <;> split <;> omega
theorem cmpRow_zero : ∀ a b : List Lab, cmpRow a b = 0 ↔ a = b
  | [], [] => by simp [cmpRow]
  | [], _ :: _ => by simp [cmpRow]
  | _ :: _, [] => by simp [cmpRow]
  | x :: a, y :: b => by
    rw [cmpRow]
    split
    · rename_i h
      exact ⟨fun k => absurd k h, fun k => by injection k with k _; exact absurd ((cmpLab_zero x y).2 k) h⟩
    · rename_i h
      have h := (cmpLab_zero x y).1 (Decidable.not_not.1 h)
      rw [cmpRow_zero a b, h]
      simp
theorem cmpLab_neg (x y : Lab) : cmpLab x y < 0 ↔ nmL x < nmL y ∨ nmL x = nmL y ∧ vlL x < vlL y := by
  unfold cmpLab
  split
  · rename_i h
    rw [cmpB_neg]
    exact ⟨.inl, fun k => k.elim id fun k => absurd ((cmpB_zero _ _).2 k.1) h⟩
  · rename_i h
    have h := (cmpB_zero _ _).1 (Decidable.not_not.1 h)
    rw [cmpB_neg, h]
    exact ⟨fun k => .inr ⟨rfl, k⟩, fun k => k.elim (fun k => absurd k (List.lt_irrefl _)) (·.2)⟩
theorem cmpLab_trans {x y z : Lab} (h : cmpLab x y < 0) (k : cmpLab y z < 0) : cmpLab x z < 0 := by
  rw [cmpLab_neg] at *
  rcases h with h | ⟨h, h'⟩ <;> rcases k with k | ⟨k, k'⟩
  · exact .inl (List.lt_trans h k)
  · exact .inl (k ▸ h)
  · exact .inl (h ▸ k)
  · exact .inr ⟨h.trans k, List.lt_trans h' k'⟩
theorem cmpRow_trans : ∀ a b c : List Lab, cmpRow a b ≤ 0 → cmpRow b c ≤ 0 → cmpRow a c ≤ 0
  | [], _, [], _, _ => by simp [cmpRow]
  | [], _, _ :: _, _, _ => by simp [cmpRow]
  | x :: a, [], c, h, _ => by simp [cmpRow] at h
  | x :: a, y :: b, [], _, k => by simp [cmpRow] at k
  | x :: a, y :: b, z :: c, h, k => by
    have b1 := cmpLab_bd x y
    have b2 := cmpLab_bd y z
    have ih := cmpRow_trans a b c
    rw [cmpRow] at h k ⊢
    by_cases e1 : cmpLab x y = 0
    · obtain rfl := (cmpLab_zero x y).1 e1
      by_cases e2 : cmpLab x z = 0
      · rw [if_neg (by simpa using e1)] at h
        rw [if_neg (by simpa using e2)] at k
        rw [if_neg (by simpa using e2)]
        exact ih h k
      · rw [if_pos e2] at k
        rw [if_pos e2]; exact k
    · rw [if_pos e1] at h
      by_cases e2 : cmpLab y z = 0
      · obtain rfl := (cmpLab_zero y z).1 e2
        rw [if_pos e1]; exact h
      · rw [if_pos e2] at k
        have h3 := cmpLab_trans (x := x) (y := y) (z := z) (by omega) (by omega)
        rw [if_pos (by omega)]; omega
/-- A row's beginning. -/
theorem cmpRow_take : ∀ (a : List Lab) (k : Nat), k ≤ a.length → cmpRow (a.take k) a ≤ 0 ∧ (cmpRow (a.take k) a = 0 ↔ k = a.length)
  | [], 0, _ => by simp [cmpRow]
  | x :: a, 0, _ => by simp [cmpRow]
  | x :: a, k + 1, h => by
    have ih := cmpRow_take a k (by simpa using h)
    rw [List.take_succ_cons, cmpRow, if_neg (by simpa using (cmpLab_zero x x).2 rfl)]
    simpa using ih
/-! ### sorting -/
/-- A row's labels, rising. -/
def SortedOf (L s : List Lab) : Prop := s.Perm L ∧ s.Pairwise fun x y => nmL x < nmL y
theorem sortedOf_unique {L s t : List Lab} (h : SortedOf L s) (k : SortedOf L t) : s = t :=
  (h.1.trans k.1.symm).eq_of_pairwise (fun a b _ _ h1 h2 => absurd (List.lt_trans h1 h2) (List.lt_irrefl _)) h.2 k.2
def distinct (L : List Lab) : Bool := decide (L.map nmL).Nodup
def sortL (L : List Lab) : Option (List Lab) := if distinct L = true then some (L.mergeSort fun x y => decide (nmL x ≤ nmL y)) else none
theorem pw_nodup {s : List Lab} (h : s.Pairwise fun x y => nmL x < nmL y) : (s.map nmL).Nodup := by
  unfold List.Nodup
  rw [List.pairwise_map]
  exact h.imp fun k e => by rw [e] at k; exact List.lt_irrefl _ k
theorem sortL_some {L s : List Lab} (h : SortedOf L s) : sortL L = some s := by
  have hd : distinct L = true := decide_eq_true (((h.1.map nmL).nodup_iff).1 (pw_nodup h.2))
  unfold sortL
  rw [if_pos hd]
  have hm := List.pairwise_mergeSort (le := fun a b : Lab => decide (nmL a ≤ nmL b)) (fun a b c h k => by
    simp only [decide_eq_true_eq] at h k ⊢; exact List.le_trans h k) (fun a b => by
    simp only [Bool.or_eq_true, decide_eq_true_eq]; exact List.le_total _ _) L
  have hp := List.mergeSort_perm L fun x y => decide (nmL x ≤ nmL y)
  have hn : ((L.mergeSort fun x y => decide (nmL x ≤ nmL y)).map nmL).Nodup := ((hp.map nmL).nodup_iff).2 (of_decide_eq_true hd)
  unfold List.Nodup at hn
  rw [List.pairwise_map] at hn
  have h3 : (L.mergeSort fun x y => decide (nmL x ≤ nmL y)).Pairwise fun x y => nmL x < nmL y := (hm.and hn).imp fun ⟨q, r⟩ => by
    rcases bs3 _ _ with k | k | k
    · exact k
    · exact absurd k r
    · exact absurd (of_decide_eq_true q) (List.not_le.2 k)
  rw [sortedOf_unique (⟨hp, h3⟩ : SortedOf L _) h]
theorem sortL_none {L : List Lab} (h : distinct L = false) : sortL L = none := by
  unfold sortL; rw [if_neg (by rw [h]; exact Bool.false_ne_true)]
theorem distinct_perm {L M : List Lab} (h : L.Perm M) : distinct L = distinct M := by
  unfold distinct
  exact decide_eq_decide.2 ((h.map nmL).nodup_iff)
theorem distinct_two {L : List Lab} {i j : Nat} (hi : i < j) (hj : j < L.length) (h : nmL (L.getD i default) = nmL (L.getD j default)) : distinct L = false := by
  unfold distinct
  refine decide_eq_false fun hn => ?_
  have := List.pairwise_iff_getElem.1 hn i j (by simp; omega) (by simp; omega) hi
  rw [List.getD_eq_getElem?_getD, List.getD_eq_getElem?_getD, List.getElem?_eq_getElem (by omega), List.getElem?_eq_getElem hj] at h
  simp only [List.getElem_map] at this
  exact this h
end
section
/-- A word of a number. -/
def xw (v k : Nat) : Nat := v / 18446744073709551616 ^ k % 18446744073709551616
theorem xw_lt (v k : Nat) : xw v k < 18446744073709551616 := Nat.mod_lt _ (by decide)
/-- A word's product and what came before: the word that stays, what is carried on. -/
def carT (x : Nat → Nat) (n : Nat) : Nat → Nat
  | 0 => 0
  | k + 1 => (x k * n + carT x n k) / 18446744073709551616
def limT (x : Nat → Nat) (n k : Nat) : Nat := (x k * n + carT x n k) % 18446744073709551616
theorem carT_lt (x : Nat → Nat) (n : Nat) (hx : ∀ k, x k < 18446744073709551616) (hn : n < 18446744073709551616) : ∀ k, carT x n k < 18446744073709551616
  | 0 => by show 0 < _; decide
  | k + 1 => by
    have h := carT_lt x n hx hn k
    have h1 := hx k
    unfold carT
    rw [Nat.div_lt_iff_lt_mul (by decide)]
    have : x k * n ≤ 18446744073709551615 * 18446744073709551615 := Nat.mul_le_mul (by omega) (by omega)
    omega
theorem xw_step (v n k : Nat) (P : Nat) (hP : 0 < P) (B : Nat) : v / P % B * n + v % P * n / P = v % (P * B) * n / P := by
  rw [Nat.mod_mul, Nat.add_mul, Nat.mul_assoc, Nat.mul_comm P, Nat.add_mul_div_right _ _ hP, Nat.add_comm]
theorem carT_xw (v n : Nat) : ∀ k, carT (xw v) n k = v % 18446744073709551616 ^ k * n / 18446744073709551616 ^ k
  | 0 => by simp [carT, Nat.mod_one]
  | k + 1 => by
    show (xw v k * n + carT (xw v) n k) / 18446744073709551616 = _
    rw [carT_xw v n k]
    unfold xw
    rw [xw_step v n k _ (Nat.pow_pos (by decide)), Nat.div_div_eq_div_mul, ← Nat.pow_succ]
theorem limT_xw (v n k : Nat) : limT (xw v) n k = xw (v * n) k := by
  unfold limT
  rw [carT_xw]
  unfold xw
  rw [xw_step v n k _ (Nat.pow_pos (by decide))]
  have hP : 0 < 18446744073709551616 ^ k := Nat.pow_pos (by decide)
  generalize 18446744073709551616 ^ k = P at hP
  have h := Nat.div_add_mod v (P * 18446744073709551616)
  conv => rhs; rw [← h]
  rw [Nat.add_mul, Nat.mul_assoc, Nat.mul_assoc, Nat.add_comm, Nat.add_mul_div_left _ _ hP, Nat.add_mul_mod_self_left]
end
section
def cmpZ (a b : Nat) : Int := if a < b then -1 else if b < a then 1 else 0
/-- Which is less, from the top word on. -/
def cmpN (x y : Nat → Nat) : Nat → Int
  | 0 => 0
  | k + 1 => if x k < y k then -1 else if y k < x k then 1 else cmpN x y k
theorem cmpN_xw (v u : Nat) : ∀ k, cmpN (xw v) (xw u) k = cmpZ (v % 18446744073709551616 ^ k) (u % 18446744073709551616 ^ k)
  | 0 => by simp [cmpN, cmpZ, Nat.mod_one]
  | k + 1 => by
    have ih := cmpN_xw v u k
    have hp : (0 : Nat) < 18446744073709551616 ^ k := Nat.pow_pos (by decide)
    rw [Nat.pow_succ, Nat.mod_mul, Nat.mod_mul]
    unfold cmpN
    rw [ih]
    unfold xw
    have h1 := Nat.mod_lt v hp
    have h2 := Nat.mod_lt u hp
    generalize v % 18446744073709551616 ^ k = r at *
    generalize u % 18446744073709551616 ^ k = r' at *
    generalize v / 18446744073709551616 ^ k % 18446744073709551616 = q
    generalize u / 18446744073709551616 ^ k % 18446744073709551616 = q'
    generalize 18446744073709551616 ^ k = P at *
    unfold cmpZ
    by_cases c1 : q < q'
    · have h3 : P * (q + 1) ≤ P * q' := Nat.mul_le_mul_left P c1
      rw [Nat.mul_add, Nat.mul_one] at h3
      rw [if_pos c1, if_pos (by omega)]
    · rw [if_neg c1]
      by_cases c2 : q' < q
      · have h3 : P * (q' + 1) ≤ P * q := Nat.mul_le_mul_left P c2
        rw [Nat.mul_add, Nat.mul_one] at h3
        rw [if_pos c2, if_neg (by omega), if_pos (by omega)]
      · obtain rfl : q = q' := by omega
        rw [if_neg c2]
        (repeat' split) <;> omega
/-- Bits of a wide number. -/
def wMod : Nat := 18446744073709551616 ^ 4
/-- A number without its sign. -/
def absN (m : Int) : Nat := m.natAbs
/-- May a decimal be? -/
def goodD (M S : Int) : Bool := decide (0 ≤ S) && (decide (S ≤ 18) && (!(M == -9223372036854775808) && (S == 0 || !(M.tmod 10 == 0))))
/-- Without noughts behind the point. -/
def stripN : Nat → Nat → Nat × Nat
  | v, 0 => (v, 0)
  | v, s + 1 => if v % 10 = 0 then stripN (v / 10) s else (v, s + 1)
/-- A wide number as a decimal; false: it is none. -/
def decN (neg : Bool) (v s : Nat) : (Int × Nat) × Bool :=
  if v % wMod = 0 then ((0, 0), true)
  else if 18 < (stripN (v % wMod) s).2 ∨ 9223372036854775807 < (stripN (v % wMod) s).1 then ((0, 0), false)
  else ((if neg then -((stripN (v % wMod) s).1 : Int) else ((stripN (v % wMod) s).1 : Int), (stripN (v % wMod) s).2), true)
/-- A number without a divisor, and how often it was one. -/
def withoutN (q : Nat) : Nat → Nat → Nat × Nat
  | 0, n => (n, 0)
  | f + 1, n => if n % q = 0 then ((withoutN q f (n / q)).1, (withoutN q f (n / q)).2 + 1) else (n, 0)
/-- The quotient; false: it is none. -/
def overN (aM aS bM bS : Int) : (Int × Nat) × Bool :=
  if (goodD aM aS && goodD bM bS && !(bM == 0)) = false then ((0, 0), false)
  else
    let g := Nat.gcd (absN aM) (absN bM)
    let t := withoutN 2 64 (absN bM / g)
    let f := withoutN 5 64 t.1
    if f.1 ≠ 1 then ((0, 0), false)
    else
      let s := max t.2 f.2
      let w := absN aM / g * 2 ^ (s - t.2) * 5 ^ (s - f.2)
      let e : Int := (s : Int) + aS - bS
      let neg := (decide (aM < 0)) != (decide (bM < 0))
      if e < 0 then decN neg (w * 10 ^ (-e).toNat) 0 else decN neg w e.toNat
def countD (M S : Int) : Int × Nat := if goodD M S then (M, S.toNat) else (0, 0)
def numW (a : Int × Nat) (s : Nat) : Nat := absN a.1 * 10 ^ (s - a.2)
def cmpNum (n1 : Bool) (v : Nat) (n2 : Bool) (u : Nat) : Int :=
  if n1 && n2 then cmpZ (u % wMod) (v % wMod) else if n1 then -1 else if n2 then 1 else cmpZ (v % wMod) (u % wMod)
def cmpD (aM aS bM bS : Int) : Int :=
  let a := countD aM aS
  let b := countD bM bS
  let s := max a.2 b.2
  cmpNum (decide (a.1 < 0)) (numW a s) (decide (b.1 < 0)) (numW b s)
theorem withoutN_pos (q : Nat) (hq : 2 ≤ q) : ∀ f n, 0 < n → n < 2 ^ f → 0 < (withoutN q f n).1 ∧ (withoutN q f n).1 ≤ n ∧ (withoutN q f n).2 ≤ f
  | 0, n, h, k => by simp at k; omega
  | f + 1, n, h, k => by
    unfold withoutN
    split
    · rename_i hd
      have h1 : n / q < 2 ^ f := by
        rw [Nat.pow_succ] at k
        rw [Nat.div_lt_iff_lt_mul (by omega)]
        have : 2 ^ f * 2 ≤ 2 ^ f * q := Nat.mul_le_mul_left _ hq
        omega
      have h2 : 0 < n / q := Nat.div_pos (Nat.le_of_dvd h (Nat.dvd_of_mod_eq_zero hd)) (by omega)
      have ih := withoutN_pos q hq f (n / q) h2 h1
      have : n / q ≤ n := Nat.div_le_self _ _
      simp only; omega
    · exact ⟨h, Nat.le_refl _, Nat.zero_le _⟩
/-- Long division by ten, word by word, from the top: the rest ahead of a word. -/
def rstT (x : Nat → Nat) : Nat → Nat
  | 0 => 0
  | k + 1 => (rstT x k * 18446744073709551616 + x (3 - k)) % 10
def quoT (x : Nat → Nat) (k : Nat) : Nat := (rstT x k * 18446744073709551616 + x (3 - k)) / 10
theorem rstT_lt (x : Nat → Nat) : ∀ k, rstT x k < 10
  | 0 => by show 0 < 10; decide
  | k + 1 => Nat.mod_lt _ (by decide)
theorem quoT_lt (x : Nat → Nat) (hx : ∀ k, x k < 18446744073709551616) (k : Nat) : quoT x k < 18446744073709551616 := by
  have h1 := rstT_lt x k
  have h2 := hx (3 - k)
  unfold quoT
  omega
theorem ten_step (u : Nat) : ((u / 18446744073709551616) % 10 * 18446744073709551616 + u % 18446744073709551616) / 10 = u / 10 % 18446744073709551616 ∧ ((u / 18446744073709551616) % 10 * 18446744073709551616 + u % 18446744073709551616) % 10 = u % 10 := by
  obtain ⟨p, hp⟩ : ∃ p, u / 18446744073709551616 = p := ⟨_, rfl⟩
  obtain ⟨r, hr⟩ : ∃ r, u % 18446744073709551616 = r := ⟨_, rfl⟩
  obtain ⟨a, ha⟩ : ∃ a, p / 10 = a := ⟨_, rfl⟩
  obtain ⟨b, hb⟩ : ∃ b, p % 10 = b := ⟨_, rfl⟩
  have hu : u = 18446744073709551616 * (10 * a + b) + r := by omega
  rw [hp, hr, hb, hu]
  constructor
  · have : (18446744073709551616 * (10 * a + b) + r) / 10 = 18446744073709551616 * a + (b * 18446744073709551616 + r) / 10 := by omega
    rw [this]; omega
  · omega
theorem pow_step (v k : Nat) (h : k ≤ 3) : v / 18446744073709551616 ^ (4 - k) = v / 18446744073709551616 ^ (3 - k) / 18446744073709551616 := by
  obtain ⟨j, hj⟩ : ∃ j, 3 - k = j := ⟨_, rfl⟩
  have h4 : 4 - k = j + 1 := by omega
  rw [hj, h4, Nat.div_div_eq_div_mul, Nat.pow_succ]
theorem rst_xw (v : Nat) (hv : v < wMod) : ∀ k, k ≤ 4 → rstT (xw v) k = v / 18446744073709551616 ^ (4 - k) % 10
  | 0, _ => by
    unfold wMod at hv
    have h4 : v / 18446744073709551616 ^ (4 - 0) = 0 := Nat.div_eq_of_lt hv
    rw [h4, rstT]
  | k + 1, h => by
    have ih := rst_xw v hv k (by omega)
    have e1 : rstT (xw v) (k + 1) = (rstT (xw v) k * 18446744073709551616 + xw v (3 - k)) % 10 := by rw [rstT]
    rw [e1, ih, pow_step v k (by omega), show 4 - (k + 1) = 3 - k by omega]
    unfold xw
    exact (ten_step _).2
theorem quo_xw (v : Nat) (hv : v < wMod) (k : Nat) (h : k ≤ 3) : quoT (xw v) k = xw (v / 10) (3 - k) := by
  unfold quoT
  rw [rst_xw v hv k (by omega), pow_step v k h]
  have h2 : v / 10 / 18446744073709551616 ^ (3 - k) = v / 18446744073709551616 ^ (3 - k) / 10 := by rw [Nat.div_div_eq_div_mul, Nat.div_div_eq_div_mul, Nat.mul_comm]
  unfold xw
  rw [h2]
  exact (ten_step _).1
theorem rst_all (v : Nat) (hv : v < wMod) : rstT (xw v) 4 = v % 10 := by
  rw [rst_xw v hv 4 (by omega)]; simp
theorem xw_mod (v k : Nat) (h : k < 4) : xw (v % wMod) k = xw v k := by
  unfold xw wMod
  have e : (18446744073709551616 : Nat) ^ 4 = 18446744073709551616 ^ k * 18446744073709551616 ^ (4 - k) := by rw [← Nat.pow_add]; congr 1; omega
  rw [e, Nat.mod_mul_right_div_self, Nat.mod_mod_of_dvd]
  exact ⟨18446744073709551616 ^ (3 - k), by rw [← Nat.pow_succ', show (3 - k).succ = 4 - k by omega]⟩
end
section
structure MPnt where
  labels : List Lab
  role : Nat
  inf : Bool
  bM : Int
  bS : Nat
  vM : Int
  vS : Nat
  timed : Bool
  time : Int
deriving Inhabited
structure MFam where
  name : ByteArray
  kind : Nat
  unit : ByteArray
  help : ByteArray
  pts : List MPnt
deriving Inhabited
/-- The first of some numbers that is not 0. -/
def orL : List Int → Int
  | [] => 0
  | x :: xs => if x ≠ 0 then x else orL xs
def bB (a b : Bool) : Int := if a = b then 0 else if b then -1 else 1
def nB (a b : Int) : Int := if a < b then -1 else if b < a then 1 else 0
/-- Of two points: which is ahead; 0: they are of the same. -/
def cmpPnt (p q : MPnt) : Int := orL [cmpRow p.labels q.labels, bB p.timed q.timed, nB p.time q.time, nB p.role q.role, bB p.inf q.inf, cmpD p.bM p.bS q.bM q.bS]
def samePnt (p q : MPnt) : Bool := decide (cmpPnt p q = 0)
/-- A point and where its labels lie; a family and where its points lie. -/
structure VPnt where
  pt : MPnt
  A : Option Addr
  c : Nat
deriving Inhabited
structure VFam where
  name : ByteArray
  kind : Nat
  unit : ByteArray
  help : ByteArray
  pts : List VPnt
  A : Option Addr
  c : Nat
deriving Inhabited
def VFam.fam (x : VFam) : MFam := ⟨x.name, x.kind, x.unit, x.help, x.pts.map VPnt.pt⟩
def pntCell (x : VPnt) : List Value := [.slice x.A x.pt.labels.length x.c, .int .i64 (x.pt.role : Int), .bool x.pt.inf, .int .i64 x.pt.bM, .int .i64 (x.pt.bS : Int), .int .i64 x.pt.vM, .int .i64 (x.pt.vS : Int), .bool x.pt.timed, .int .i64 x.pt.time]
def famCell (x : VFam) : List Value := [.string x.name, .int .i64 (x.kind : Int), .string x.unit, .string x.help, .slice x.A x.pts.length x.c]
theorem pntCell_len (x : VPnt) : (pntCell x).length = 9 := rfl
theorem famCell_len (x : VFam) : (famCell x).length = 5 := rfl
/-- Where a family stands; one more if it isn't there. -/
def famIx (fs : List MFam) (n : ByteArray) : Nat := fs.findIdx fun f => f.name.data.toList == n.data.toList
def famsOf (fs : List MFam) (n : ByteArray) : List MFam := if famIx fs n < fs.length then fs else fs ++ [⟨n, 0, mkB, mkB, []⟩] where mkB := ⟨#[]⟩
def famAt (fs : List MFam) (n : ByteArray) : MFam := (famsOf fs n).getD (famIx fs n) default
/-- A point put to the family of a name; else what is wrong. -/
def putD (fs : List MFam) (points : Nat) (n : ByteArray) (p : MPnt) (at_ : Nat) : Except (Nat × Nat) (List MFam) :=
  if 30 < (famsOf fs n).length then .error (14, at_)
  else if (famAt fs n).pts.any (samePnt p) then .error (13, at_)
  else if 120 ≤ points then .error (14, at_)
  else .ok ((famsOf fs n).set (famIx fs n) { famAt fs n with pts := (famAt fs n).pts ++ [p] })
end
section
/-- What stands of a reading: families, which rows told of the last one, how many points there are. -/
structure ORd where
  fams : List MFam
  t1 : Bool
  t2 : Bool
  t3 : Bool
  pts : Nat
deriving Inhabited
def ORd.told (r : ORd) (k : Nat) : Bool := if k = 1 then r.t1 else if k = 2 then r.t2 else if k = 3 then r.t3 else false
def ORd.tell (r : ORd) (k : Nat) : ORd := { r with t1 := r.t1 || k == 1, t2 := r.t2 || k == 2, t3 := r.t3 || k == 3 }
/-- The words of kinds. -/
def kindW : List (List UInt8) := [[117, 110, 107, 110, 111, 119, 110], [103, 97, 117, 103, 101], [99, 111, 117, 110, 116, 101, 114], [104, 105, 115, 116, 111, 103, 114, 97, 109], [115, 117, 109, 109, 97, 114, 121]]
def kindO (w : List UInt8) : Option Nat := if kindW.findIdx (fun k => k == w) < 5 then some (kindW.findIdx (fun k => k == w)) else none
def rolesK (k : Nat) : List Nat := if k < 3 then [0] else if k = 3 then [1, 3, 4] else if k = 4 then [2, 3, 4] else []
/-- What a series adds to its family's name. -/
def sufK (kind role : Nat) : List UInt8 :=
  if role = 1 then [95, 98, 117, 99, 107, 101, 116] else if role = 3 then [95, 99, 111, 117, 110, 116] else if role = 4 then [95, 115, 117, 109] else if kind = 2 then [95, 116, 111, 116, 97, 108] else []
def belO (f : MFam) (s : List UInt8) : Option Nat := (rolesK f.kind).find? fun r => f.name.data.toList ++ sufK f.kind r == s
def knownO (fs : List MFam) (s : List UInt8) : Bool := fs.any fun f => f.name.data.toList == s
def newF (n : ByteArray) : MFam := ⟨n, 0, ⟨#[]⟩, ⟨#[]⟩, []⟩
def lastF (fs : List MFam) : Option MFam := fs.getLast?
def onLast (fs : List MFam) (f : MFam → MFam) : List MFam := match fs.getLast? with
  | some x => fs.dropLast ++ [f x]
  | none => fs
def beginO (r : ORd) (n : ByteArray) : ORd := ⟨r.fams ++ [newF n], false, false, false, r.pts⟩
abbrev OErr := Nat × Nat
def namedO (r : ORd) (x : MRow) : Except OErr ORd :=
  if 60 < x.name.size then .error (14, x.off)
  else if knownO r.fams x.name.data.toList then
    match r.fams.getLast? with
    | some f => if !(f.name.data.toList == x.name.data.toList) || (decide (0 < f.pts.length) || r.told x.kind) then .error (13, x.off) else .ok (r.tell x.kind)
    | none => .error (13, x.off)
  else if 30 ≤ r.fams.length then .error (14, x.off)
  else .ok ((beginO r x.name).tell x.kind)
def endsO' (s t : List UInt8) : Bool := decide (t.length ≤ s.length) && s.drop (s.length - t.length) == t
def tellsO (r : ORd) (x : MRow) : Except OErr ORd :=
  match namedO r x with
  | .error e => .error e
  | .ok q =>
    if x.kind = 1 then match kindO x.text.data.toList with
      | none => .error (13, x.pos)
      | some k => .ok { q with fams := onLast q.fams fun f => { f with kind := k } }
    else if 60 < x.text.size then .error (14, x.pos)
    else if x.kind = 3 then .ok { q with fams := onLast q.fams fun f => { f with help := x.text } }
    else if !endsO' x.name.data.toList (95 :: x.text.data.toList) then .error (13, x.pos)
    else .ok { q with fams := onLast q.fams fun f => { f with unit := x.text } }
def ownerO (r : ORd) (x : MRow) : Except OErr (Nat × ORd) :=
  match (match r.fams.getLast? with | some f => belO f x.name.data.toList | none => none) with
  | some role => .ok (role, r)
  | none =>
    if 60 < x.name.size then .error (14, x.off)
    else if knownO r.fams x.name.data.toList then .error (13, x.off)
    else if 30 ≤ r.fams.length then .error (14, x.off)
    else .ok (0, beginO r x.name)
def isLe (t : MTag) : Bool := t.name.data.toList == [108, 101]
def isQu (t : MTag) : Bool := t.name.data.toList == [113, 117, 97, 110, 116, 105, 108, 101]
def boundT (role : Nat) (t : MTag) : Bool := (role == 1 && isLe t) || (role == 2 && isQu t)
/-- A sample's labels, but its bound; which one that is. -/
def tagsO (role : Nat) (ts : List MTag) : Nat → List MTag → Option MTag → List Lab → Except OErr (Option MTag × List Lab)
  | _, [], own, l => .ok (own, l)
  | k, t :: r, own, l =>
    if 60 < t.name.size then .error (14, t.off)
    else if 60 < t.value.size then .error (14, t.pos)
    else if (ts.take k).any fun u => u.name.data.toList == t.name.data.toList then .error (13, t.off)
    else if boundT role t then tagsO role ts (k + 1) r (some t) l
    else if 8 ≤ l.length then .error (14, t.off)
    else tagsO role ts (k + 1) r own (l ++ [(t.name, t.value)])
def isInf (v : ByteArray) : Bool := v.data.toList == [43, 73, 110, 102]
/-- A bound: is it endless? its number. -/
def boundO (role : Nat) (t : MTag) : Except OErr (Bool × Int × Nat) :=
  if role == 1 && isInf t.value then .ok (true, 0, 0)
  else if (parseD t.value.data.toList).2.1 = 11 then .error (13, t.pos)
  else if (parseD t.value.data.toList).2.1 ≠ 0 || (role == 2 && (decide ((parseD t.value.data.toList).1.1 < 0) || decide (0 < cmpD (parseD t.value.data.toList).1.1 (parseD t.value.data.toList).1.2 1 0))) then .error (12, t.pos)
  else .ok (false, (parseD t.value.data.toList).1.1, (parseD t.value.data.toList).1.2)
/-- Seconds as a time. -/
def secD (M : Int) (S : Nat) : Option Int :=
  if goodD M S && decide (S ≤ 3) then (if M * 10 ^ (3 - S) ≤ 1125899906842624 ∧ -1125899906842624 ≤ M * 10 ^ (3 - S) then some (M * 10 ^ (3 - S)) else none) else none
/-- A sample's number, its time. -/
def valueO (kind role : Nat) (x : MRow) : Except OErr ((Int × Nat) × Bool × Int) :=
  if (parseD x.text.data.toList).2.1 ≠ 0 || ((kind == 2 || (role == 1 || role == 3)) && decide ((parseD x.text.data.toList).1.1 < 0)) then .error (12, x.pos)
  else if !x.timed then .ok ((parseD x.text.data.toList).1, false, 0)
  else if (parseD x.time.data.toList).2.1 ≠ 0 then .error (12, x.when_)
  else match secD (parseD x.time.data.toList).1.1 (parseD x.time.data.toList).1.2 with
    | none => .error (12, x.when_)
    | some ms => .ok ((parseD x.text.data.toList).1, true, ms)
def sampleO (r : ORd) (x : MRow) : Except OErr ORd :=
  match ownerO r x with
  | .error e => .error e
  | .ok (role, q) =>
    match tagsO role x.tags 0 x.tags none [] with
    | .error e => .error e
    | .ok (own, l) =>
      match (if role = 1 ∨ role = 2 then (match own with | none => .error (13, x.off) | some t => boundO role t) else .ok (false, 0, 0) : Except OErr (Bool × Int × Nat)) with
      | .error e => .error e
      | .ok b =>
        match valueO ((q.fams.getLast?.map MFam.kind).getD 0) role x with
        | .error e => .error e
        | .ok v =>
          let p : MPnt := ⟨(sortL l).getD [], role, b.1, b.2.1, b.2.2, v.1.1, v.1.2, v.2.1, v.2.2⟩
          if ((q.fams.getLast?.map MFam.pts).getD []).any (samePnt p) then .error (13, x.off)
          else if 120 ≤ q.pts then .error (14, x.off)
          else .ok { q with fams := onLast q.fams fun f => { f with pts := f.pts ++ [p] }, pts := q.pts + 1 }
def rowO (r : ORd) (x : MRow) : Except OErr ORd := if x.kind = 0 then sampleO r x else tellsO r x
def allO : List MRow → ORd → Except OErr ORd
  | [], r => .ok r
  | x :: xs, r => match rowO r x with
    | .error e => .error e
    | .ok q => allO xs q
/-- What is read, in the order in which it came; else what is wrong, and where. -/
def readO (l : List UInt8) : Except OErr (List MFam) :=
  if 4000 < l.length then .error (14, 0)
  else if (openRows l).2.2 then .error (11, (openRows l).2.1)
  else match allO (openRows l).1 ⟨[], false, false, false, 0⟩ with
    | .error e => .error e
    | .ok q => .ok q.fams
end
section
/-- A place that a row tells of. -/
def atRow (x : MRow) (o : Nat) : Prop := o = x.off ∨ o = x.pos ∨ (x.timed = true ∧ o = x.when_) ∨ ∃ t ∈ x.tags, o = t.off ∨ o = t.pos
def errC (c : Nat) : Prop := c = 12 ∨ c = 13 ∨ c = 14
theorem named_err {r : ORd} {x : MRow} {e : OErr} (h : namedO r x = .error e) : atRow x e.2 ∧ errC e.1 := by
  unfold namedO at h
  split at h
  · injection h with h; subst h; exact ⟨.inl rfl, .inr (.inr rfl)⟩
  · split at h
    · split at h
      · split at h
        · injection h with h; subst h; exact ⟨.inl rfl, .inr (.inl rfl)⟩
        · cases h
      · injection h with h; subst h; exact ⟨.inl rfl, .inr (.inl rfl)⟩
    · split at h
      · injection h with h; subst h; exact ⟨.inl rfl, .inr (.inr rfl)⟩
      · cases h
theorem tells_err {r : ORd} {x : MRow} {e : OErr} (h : tellsO r x = .error e) : atRow x e.2 ∧ errC e.1 := by
  unfold tellsO at h
  split at h
  · rename_i e' he
    injection h with h; subst h
    exact named_err he
  · split at h
    · split at h
      · injection h with h; subst h; exact ⟨.inr (.inl rfl), .inr (.inl rfl)⟩
      · cases h
    · split at h
      · injection h with h; subst h; exact ⟨.inr (.inl rfl), .inr (.inr rfl)⟩
      · split at h
        · cases h
        · split at h
          · injection h with h; subst h; exact ⟨.inr (.inl rfl), .inr (.inl rfl)⟩
          · cases h
theorem owner_err {r : ORd} {x : MRow} {e : OErr} (h : ownerO r x = .error e) : atRow x e.2 ∧ errC e.1 := by
  unfold ownerO at h
  split at h
  · cases h
  · split at h
    · injection h with h; subst h; exact ⟨.inl rfl, .inr (.inr rfl)⟩
    · split at h
      · injection h with h; subst h; exact ⟨.inl rfl, .inr (.inl rfl)⟩
      · split at h
        · injection h with h; subst h; exact ⟨.inl rfl, .inr (.inr rfl)⟩
        · cases h
theorem tags_err {role : Nat} {ts : List MTag} {e : OErr} : ∀ (r : List MTag) (k : Nat) (own : Option MTag) (l : List Lab), tagsO role ts k r own l = .error e → (∃ t ∈ r, e.2 = t.off ∨ e.2 = t.pos) ∧ errC e.1
  | [], k, own, l, h => by simp [tagsO] at h
  | t :: r, k, own, l, h => by
    unfold tagsO at h
    split at h
    · injection h with h; subst h; exact ⟨⟨t, by simp, .inl rfl⟩, .inr (.inr rfl)⟩
    · split at h
      · injection h with h; subst h; exact ⟨⟨t, by simp, .inr rfl⟩, .inr (.inr rfl)⟩
      · split at h
        · injection h with h; subst h; exact ⟨⟨t, by simp, .inl rfl⟩, .inr (.inl rfl)⟩
        · split at h
          · obtain ⟨⟨u, hu, ho⟩, hc⟩ := tags_err r _ _ _ h
            exact ⟨⟨u, by simp [hu], ho⟩, hc⟩
          · split at h
            · injection h with h; subst h; exact ⟨⟨t, by simp, .inl rfl⟩, .inr (.inr rfl)⟩
            · obtain ⟨⟨u, hu, ho⟩, hc⟩ := tags_err r _ _ _ h
              exact ⟨⟨u, by simp [hu], ho⟩, hc⟩
theorem tags_own {role : Nat} {ts : List MTag} {own' : Option MTag} {l' : List Lab} : ∀ (r : List MTag) (k : Nat) (own : Option MTag) (l : List Lab), tagsO role ts k r own l = .ok (own', l') → own' = own ∨ ∃ t ∈ r, own' = some t
  | [], k, own, l, h => by simp [tagsO] at h; exact .inl h.1.symm
  | t :: r, k, own, l, h => by
    unfold tagsO at h
    split at h
    · cases h
    · split at h
      · cases h
      · split at h
        · cases h
        · split at h
          · rcases tags_own r _ _ _ h with h1 | ⟨u, hu, h1⟩
            · exact .inr ⟨t, by simp, h1⟩
            · exact .inr ⟨u, by simp [hu], h1⟩
          · split at h
            · cases h
            · rcases tags_own r _ _ _ h with h1 | ⟨u, hu, h1⟩
              · exact .inl h1
              · exact .inr ⟨u, by simp [hu], h1⟩
theorem bound_err {role : Nat} {t : MTag} {e : OErr} (h : boundO role t = .error e) : e.2 = t.pos ∧ errC e.1 := by
  unfold boundO at h
  split at h
  · cases h
  · split at h
    · injection h with h; subst h; exact ⟨rfl, .inr (.inl rfl)⟩
    · split at h
      · injection h with h; subst h; exact ⟨rfl, .inl rfl⟩
      · cases h
theorem value_err {kind role : Nat} {x : MRow} {e : OErr} (h : valueO kind role x = .error e) : atRow x e.2 ∧ errC e.1 := by
  unfold valueO at h
  split at h
  · injection h with h; subst h; exact ⟨.inr (.inl rfl), .inl rfl⟩
  · split at h
    · cases h
    · rename_i ht
      have ht2 : x.timed = true := by simpa using ht
      split at h
      · injection h with h; subst h; exact ⟨.inr (.inr (.inl ⟨ht2, rfl⟩)), .inl rfl⟩
      · split at h
        · injection h with h; subst h; exact ⟨.inr (.inr (.inl ⟨ht2, rfl⟩)), .inl rfl⟩
        · cases h
theorem sample_err {r : ORd} {x : MRow} {e : OErr} (h : sampleO r x = .error e) : atRow x e.2 ∧ errC e.1 := by
  unfold sampleO at h
  split at h
  · rename_i e' he
    injection h with h; subst h
    exact owner_err he
  · rename_i role q hq
    split at h
    · rename_i e' he
      injection h with h; subst h
      obtain ⟨⟨t, ht, ho⟩, hc⟩ := tags_err _ _ _ _ he
      exact ⟨.inr (.inr (.inr ⟨t, ht, ho⟩)), hc⟩
    · rename_i own l hl
      have hown := tags_own _ _ _ _ hl
      split at h
      · rename_i e' he
        injection h with h; subst h
        split at he
        · split at he
          · injection he with he; subst he; exact ⟨.inl rfl, .inr (.inl rfl)⟩
          · rename_i t
            obtain ⟨h1, h2⟩ := bound_err he
            rcases hown with h3 | ⟨u, hu, h3⟩
            · cases h3
            · injection h3 with h3; subst h3
              exact ⟨.inr (.inr (.inr ⟨_, hu, .inr h1⟩)), h2⟩
        · cases he
      · split at h
        · rename_i e' he
          injection h with h; subst h
          exact value_err he
        · simp only at h
          split at h
          · injection h with h; subst h; exact ⟨.inl rfl, .inr (.inl rfl)⟩
          · split at h
            · injection h with h; subst h; exact ⟨.inl rfl, .inr (.inr rfl)⟩
            · cases h
theorem row_err {r : ORd} {x : MRow} {e : OErr} (h : rowO r x = .error e) : atRow x e.2 ∧ errC e.1 := by
  unfold rowO at h
  split at h
  · exact sample_err h
  · exact tells_err h
theorem all_err {e : OErr} : ∀ (xs : List MRow) (r : ORd), allO xs r = .error e → (∃ x ∈ xs, atRow x e.2) ∧ errC e.1
  | [], r, h => by simp [allO] at h
  | x :: xs, r, h => by
    unfold allO at h
    split at h
    · rename_i e' he
      injection h with h; subst h
      obtain ⟨h1, h2⟩ := row_err he
      exact ⟨⟨x, by simp, h1⟩, h2⟩
    · obtain ⟨⟨y, hy, h1⟩, h2⟩ := all_err xs _ h
      exact ⟨⟨y, by simp [hy], h1⟩, h2⟩
end
section
def rngR : List (List UInt8) := [[97, 32, 57, 50, 50, 51, 51, 55, 50, 48, 51, 54, 56, 53, 52, 55, 55, 53, 56, 48, 56, 10], [97, 32, 49, 32, 49, 49, 50, 53, 56, 57, 57, 57, 48, 54, 56, 52, 50, 46, 54, 50, 53, 10], [35, 32, 84, 89, 80, 69, 32, 97, 32, 104, 105, 115, 116, 111, 103, 114, 97, 109, 10, 97, 95, 98, 117, 99, 107, 101, 116, 123, 108, 101, 61, 34, 120, 34, 125, 32, 49, 10], [35, 32, 84, 89, 80, 69, 32, 97, 32, 104, 105, 115, 116, 111, 103, 114, 97, 109, 10, 97, 95, 98, 117, 99, 107, 101, 116, 32, 49, 10], [35, 32, 84, 89, 80, 69, 32, 97, 32, 115, 117, 109, 109, 97, 114, 121, 10, 97, 123, 113, 117, 97, 110, 116, 105, 108, 101, 61, 34, 49, 46, 49, 34, 125, 32, 49, 10], [35, 32, 84, 89, 80, 69, 32, 97, 32, 99, 111, 117, 110, 116, 101, 114, 10, 97, 95, 116, 111, 116, 97, 108, 32, 45, 49, 10], [35, 32, 84, 89, 80, 69, 32, 97, 32, 115, 117, 109, 109, 97, 114, 121, 10, 97, 95, 99, 111, 117, 110, 116, 32, 45, 49, 10], [97, 32, 49, 32, 48, 46, 48, 48, 48, 49, 10], [35, 32, 84, 89, 80, 69, 32, 97, 32, 104, 105, 115, 116, 111, 103, 114, 97, 109, 10, 97, 95, 98, 117, 99, 107, 101, 116, 123, 108, 101, 61, 34, 57, 50, 50, 51, 51, 55, 50, 48, 51, 54, 56, 53, 52, 55, 55, 53, 56, 48, 56, 34, 125, 32, 49, 10], [35, 32, 84, 89, 80, 69, 32, 97, 32, 115, 117, 109, 109, 97, 114, 121, 10, 97, 123, 113, 117, 97, 110, 116, 105, 108, 101, 61, 34, 43, 73, 110, 102, 34, 125, 32, 49, 10]]
def rngC : List Nat := [12, 12, 13, 13, 12, 12, 12, 12, 12, 13]
def rngO : List Nat := [2, 4, 32, 19, 29, 25, 25, 4, 32, 29]
def twR : List (List UInt8) := [[97, 32, 49, 10], [35, 32, 84, 89, 80, 69, 32, 97, 32, 103, 97, 117, 103, 101, 10], [35, 32, 84, 89, 80, 69, 32, 97, 32, 103, 97, 117, 103, 101, 10, 35, 32, 84, 89, 80, 69, 32, 97, 32, 103, 97, 117, 103, 101, 10], [97, 32, 49, 10, 98, 32, 49, 10, 97, 123, 120, 61, 34, 34, 125, 32, 49, 10], [97, 32, 49, 10, 97, 32, 50, 10], [97, 32, 49, 32, 50, 10, 97, 32, 49, 32, 50, 46, 48, 10], [35, 32, 72, 69, 76, 80, 32, 97, 32, 120, 10, 35, 32, 72, 69, 76, 80, 32, 97, 32, 120, 10], [35, 32, 84, 89, 80, 69, 32, 97, 32, 99, 111, 117, 110, 116, 101, 114, 10, 97, 32, 49, 10], [35, 32, 84, 89, 80, 69, 32, 97, 32, 103, 97, 117, 103, 101, 10, 98, 32, 49, 10, 35, 32, 72, 69, 76, 80, 32, 97, 32, 120, 10], [97, 32, 49, 10, 35, 32, 85, 78, 73, 84, 32, 97, 32, 97, 10]]
def twO : List Int := [-1, -1, 22, 8, 4, 6, 18, 17, 26, 11]
def eofB : List UInt8 := [35, 32, 69, 79, 70]
def aheadB : List UInt8 := [122, 122, 32, 49, 10, 35, 32, 72, 69, 76, 80, 32, 122, 32, 10]
def errB (e : Except OErr (List MFam)) (c o : Nat) : Bool := match e with | .error x => x.1 == c && x.2 == o | .ok _ => false
def okB (e : Except OErr (List MFam)) : Bool := match e with | .error _ => false | .ok l => decide (1 ≤ l.length) && (decide (l.length ≤ 3) && l.all fun f => decide (f.pts.length ≤ 1))
theorem rng_table : ((List.range 10).all fun k => errB (readO (rngR.getD k [] ++ eofB)) (rngC.getD k 0) (rngO.getD k 0)) = true := by decide +kernel
theorem tw_table : ((List.range 10).all fun k => if twO.getD k 0 < 0 then okB (readO (twR.getD k [] ++ eofB)) && okB (readO (aheadB ++ twR.getD k [] ++ eofB)) else errB (readO (twR.getD k [] ++ eofB)) 13 (twO.getD k 0).toNat && errB (readO (aheadB ++ twR.getD k [] ++ eofB)) 13 ((twO.getD k 0).toNat + 15)) = true := by decide +kernel
end
section
/-- A comparison that is an order. -/
structure CmpL {α : Type} (c : α → α → Int) : Prop where
  swap : ∀ x y, c y x = - c x y
  trans : ∀ x y z, c x y ≤ 0 → c y z ≤ 0 → c x z ≤ 0
section
variable {α : Type} {c : α → α → Int}
theorem CmpL.self (h : CmpL c) (x : α) : c x x = 0 := by have := h.swap x x; omega
theorem CmpL.lt (h : CmpL c) {x y z : α} (h1 : c x y < 0) (h2 : c y z ≤ 0) : c x z < 0 := by
  have h3 := h.trans x y z (by omega) h2
  rcases Nat.lt_or_ge 0 0 with _ | _
  · omega
  · by_cases e : c x z < 0
    · exact e
    · have h4 := h.trans y z x h2 (by rw [h.swap x z]; omega)
      rw [h.swap x y] at h4
      omega
theorem CmpL.lt' (h : CmpL c) {x y z : α} (h1 : c x y ≤ 0) (h2 : c y z < 0) : c x z < 0 := by
  have h3 := h.trans x y z h1 (by omega)
  by_cases e : c x z < 0
  · exact e
  · have h4 := h.trans z x y (by rw [h.swap x z]; omega) h1
    rw [h.swap y z] at h4
    omega
/-- One comparison behind another. -/
def orC (c d : α → α → Int) (x y : α) : Int := if c x y ≠ 0 then c x y else d x y
theorem CmpL.or {d : α → α → Int} (h : CmpL c) (k : CmpL d) : CmpL (orC c d) := by
  refine ⟨fun x y => ?_, fun x y z h1 h2 => ?_⟩
  · unfold orC
    have e := h.swap x y
    by_cases h0 : c x y = 0
    · rw [if_neg (by omega), if_neg (by omega)]; exact k.swap x y
    · rw [if_pos (by omega), if_pos h0]; exact e
  · unfold orC at *
    have a1 : c x y ≤ 0 := by split at h1 <;> omega
    have a2 : c y z ≤ 0 := by split at h2 <;> omega
    have a3 := h.trans x y z a1 a2
    by_cases h0 : c x z = 0
    · rw [if_neg (by omega)]
      have b1 := h.trans z x y (by rw [h.swap x z]; omega) a1
      rw [h.swap y z] at b1
      have b2 := h.trans y z x a2 (by rw [h.swap x z]; omega)
      rw [h.swap x y] at b2
      rw [if_neg (by omega)] at h1 h2
      exact k.trans x y z h1 h2
    · rw [if_pos h0]; exact a3
theorem CmpL.comp {β : Type} (h : CmpL c) (f : β → α) : CmpL (fun x y => c (f x) (f y)) := ⟨fun x y => h.swap _ _, fun x y z => h.trans _ _ _⟩
theorem CmpL.zero : CmpL (fun _ _ : α => 0) := ⟨fun _ _ => rfl, fun _ _ _ _ _ => Int.le_refl _⟩
end
theorem nB_cmp : CmpL nB := by
  refine ⟨fun x y => ?_, fun x y z h1 h2 => ?_⟩
  · unfold nB; (repeat' split) <;> omega
  · unfold nB at *
    (repeat' split at h1) <;> (repeat' split at h2) <;> (repeat' split) <;> omega
theorem bB_cmp : CmpL bB := ⟨by decide, by decide⟩
theorem cmpRow_cmp : CmpL cmpRow := ⟨cmpRow_swap, cmpRow_trans⟩
/-- A decimal as a whole number of the least parts. -/
def keyD (M : Int) (S : Int) : Int := (countD M S).1 * 10 ^ (18 - (countD M S).2)
theorem nB_eq {a b c d : Int} (h1 : a < b ↔ c < d) (h2 : b < a ↔ d < c) : nB a b = nB c d := by
  unfold nB
  by_cases q1 : a < b
  · rw [if_pos q1, if_pos (h1.1 q1)]
  · rw [if_neg q1, if_neg (fun h => q1 (h1.2 h))]
    by_cases q2 : b < a
    · rw [if_pos q2, if_pos (h2.1 q2)]
    · rw [if_neg q2, if_neg (fun h => q2 (h2.2 h))]
theorem cmpNum_nB (M N : Int) (v u : Nat) (hv : v < wMod) (hu : u < wMod) (h1 : M < 0 → 0 < v) (h2 : N < 0 → 0 < u) : cmpNum (decide (M < 0)) v (decide (N < 0)) u = nB (if M < 0 then -(v : Int) else v) (if N < 0 then -(u : Int) else u) := by
  unfold cmpNum cmpZ nB
  rw [Nat.mod_eq_of_lt hv, Nat.mod_eq_of_lt hu]
  by_cases m : M < 0
  · have := h1 m
    by_cases n : N < 0
    · have := h2 n
      simp only [m, n, decide_true, Bool.and_self, if_true]
      (repeat' split) <;> omega
    · simp only [m, n, decide_true, decide_false, Bool.and_false, Bool.false_eq_true, if_true, if_false]
      (repeat' split) <;> omega
  · by_cases n : N < 0
    · have := h2 n
      simp only [m, n, decide_true, decide_false, Bool.false_and, Bool.false_eq_true, if_true, if_false]
      (repeat' split) <;> omega
    · simp only [m, n, decide_false, Bool.and_self, Bool.false_eq_true, if_false]
      (repeat' split) <;> omega
theorem cmpD_key (aM aS bM bS : Int) (h1 : -9223372036854775808 ≤ aM) (h2 : aM ≤ 9223372036854775807) (h3 : -9223372036854775808 ≤ bM) (h4 : bM ≤ 9223372036854775807) : cmpD aM aS bM bS = nB (keyD aM aS) (keyD bM bS) := by
  have bd : ∀ M S : Int, -9223372036854775808 ≤ M → M ≤ 9223372036854775807 → (countD M S).2 ≤ 18 ∧ (countD M S).1.natAbs ≤ 9223372036854775808 := fun M S h1 h2 => by
    unfold countD
    split
    · rename_i hg
      unfold goodD at hg
      simp only [Bool.and_eq_true, decide_eq_true_eq] at hg
      exact ⟨by simp only; omega, by simp only; omega⟩
    · exact ⟨Nat.zero_le _, Nat.zero_le _⟩
  obtain ⟨a1, a2⟩ := bd aM aS h1 h2
  obtain ⟨b1, b2⟩ := bd bM bS h3 h4
  unfold cmpD keyD
  simp only
  generalize countD aM aS = a at *
  generalize countD bM bS = b at *
  obtain ⟨M, S⟩ := a
  obtain ⟨N, T⟩ := b
  simp only at a1 a2 b1 b2 ⊢
  obtain ⟨s, hs⟩ : ∃ s, s = max S T := ⟨_, rfl⟩
  rw [← hs]
  have hs1 : S ≤ s := by omega
  have hs2 : T ≤ s := by omega
  have hs3 : s ≤ 18 := by omega
  have p18 : ∀ k, k ≤ 18 → 1 ≤ 10 ^ k ∧ 10 ^ k ≤ 1000000000000000000 := fun k hk => ⟨Nat.pow_pos (by decide), by
    have := Nat.pow_le_pow_right (show 0 < 10 by decide) hk
    simpa using this⟩
  have hw : (9223372036854775808 * 1000000000000000000 : Nat) < wMod := by unfold wMod; decide
  have num : ∀ (M : Int) (S : Nat), S ≤ s → M.natAbs ≤ 9223372036854775808 → numW (M, S) s < wMod ∧ (M < 0 → 0 < numW (M, S) s) ∧ (if M < 0 then -(numW (M, S) s : Int) else (numW (M, S) s : Int)) = M * 10 ^ (s - S) := fun M S hS hM => by
    obtain ⟨q1, q2⟩ := p18 (s - S) (by omega)
    have e : numW (M, S) s = M.natAbs * 10 ^ (s - S) := rfl
    rw [e]
    have hc : ((10 : Int) ^ (s - S)) = ((10 ^ (s - S) : Nat) : Int) := by simp
    rw [hc]
    generalize 10 ^ (s - S) = P at *
    refine ⟨Nat.lt_of_le_of_lt (Nat.mul_le_mul hM q2) hw, fun hn => Nat.mul_pos (by omega) (by omega), ?_⟩
    split
    · obtain ⟨m, rfl⟩ : ∃ m : Nat, M = -(m : Int) := ⟨M.natAbs, by omega⟩
      simp [Int.neg_mul]
    · obtain ⟨m, rfl⟩ : ∃ m : Nat, M = (m : Int) := ⟨M.natAbs, by omega⟩
      simp
  obtain ⟨n1, n2, n3⟩ := num M S hs1 a2
  obtain ⟨m1, m2, m3⟩ := num N T hs2 b2
  rw [cmpNum_nB M N _ _ n1 m1 n2 m2, n3, m3]
  have hp : (0 : Int) < 10 ^ (18 - s) := Int.pow_pos (by decide)
  have e1 : M * 10 ^ (18 - S) = M * 10 ^ (s - S) * 10 ^ (18 - s) := by rw [Int.mul_assoc, ← Int.pow_add]; congr 2; omega
  have e2 : N * 10 ^ (18 - T) = N * 10 ^ (s - T) * 10 ^ (18 - s) := by rw [Int.mul_assoc, ← Int.pow_add]; congr 2; omega
  rw [e1, e2]
  generalize M * 10 ^ (s - S) = A
  generalize N * 10 ^ (s - T) = B
  generalize (10 : Int) ^ (18 - s) = P at *
  exact nB_eq (Int.mul_lt_mul_right hp).symm (Int.mul_lt_mul_right hp).symm
/-- Of two points, by their keys: which is ahead. -/
def cmpPntK : MPnt → MPnt → Int := orC (fun p q => cmpRow p.labels q.labels) (orC (fun p q => bB p.timed q.timed) (orC (fun p q => nB p.time q.time) (orC (fun p q => nB p.role q.role) (orC (fun p q => bB p.inf q.inf) (orC (fun p q => nB (keyD p.bM p.bS) (keyD q.bM q.bS)) (fun _ _ => 0))))))
theorem cmpPntK_cmp : CmpL cmpPntK :=
  (cmpRow_cmp.comp MPnt.labels).or ((bB_cmp.comp MPnt.timed).or ((nB_cmp.comp MPnt.time).or ((nB_cmp.comp (fun p : MPnt => (p.role : Int))).or ((bB_cmp.comp MPnt.inf).or ((nB_cmp.comp (fun p : MPnt => keyD p.bM p.bS)).or CmpL.zero)))))
theorem cmpPnt_key (p q : MPnt) (h1 : -9223372036854775808 ≤ p.bM ∧ p.bM ≤ 9223372036854775807) (h2 : -9223372036854775808 ≤ q.bM ∧ q.bM ≤ 9223372036854775807) : cmpPnt p q = cmpPntK p q := by
  unfold cmpPnt cmpPntK
  rw [cmpD_key _ _ _ _ h1.1 h1.2 h2.1 h2.2]
  rfl
/-! ### rows that rise -/
section
variable {α : Type} {c : α → α → Int}
/-- Rows that rise, each once, are told by what is in them. -/
theorem CmpL.unique (h : CmpL c) {s t : List α} (hp : s.Perm t) (hs : s.Pairwise fun x y => c x y < 0) (ht : t.Pairwise fun x y => c x y < 0) : s = t :=
  List.Perm.eq_of_pairwise (fun a b _ _ h1 h2 => by have := h.swap a b; omega) hs ht hp
theorem CmpL.strict (h : CmpL c) {s : List α} (hs : s.Pairwise fun x y => c x y ≤ 0) (hd : s.Pairwise fun x y => c x y ≠ 0) : s.Pairwise fun x y => c x y < 0 := by
  have := hs.and hd
  exact this.imp (fun ⟨h1, h2⟩ => by omega)
/-- A row in order. -/
def sortC (c : α → α → Int) (l : List α) : List α := l.mergeSort fun x y => decide (c x y ≤ 0)
theorem CmpL.sorted (h : CmpL c) (l : List α) : (sortC c l).Perm l ∧ (sortC c l).Pairwise fun x y => c x y ≤ 0 := by
  refine ⟨List.mergeSort_perm _ _, ?_⟩
  have := List.pairwise_mergeSort (le := fun x y => decide (c x y ≤ 0)) (fun a b d h1 h2 => by
    rw [decide_eq_true_eq] at *; exact h.trans a b d h1 h2) (fun a b => by
    rw [Bool.or_eq_true, decide_eq_true_eq, decide_eq_true_eq, h.swap a b]; omega) l
  exact this.imp (fun h => by simpa using h)
/-- What is in order, of the same, without two alike. -/
theorem CmpL.sort_eq (h : CmpL c) {s l : List α} (hp : s.Perm l) (hs : s.Pairwise fun x y => c x y < 0) : s = sortC c l := by
  obtain ⟨h1, h2⟩ := h.sorted l
  refine h.unique (hp.trans h1.symm) hs (h.strict h2 ?_)
  have hd : s.Pairwise fun x y => c x y ≠ 0 := hs.imp (fun h => by omega)
  exact ((hp.trans h1.symm).pairwise_iff (fun {x y} h' => by rw [h.swap x y]; omega)).1 hd
end
end
section
/-- No two families of a name, no two points of the same. -/
structure DistO (fs : List MFam) : Prop where
  names : fs.Pairwise fun f g => f.name.data.toList ≠ g.name.data.toList
  pts : ∀ f ∈ fs, f.pts.Pairwise fun a b => cmpPnt b a ≠ 0
theorem DistO.nil_ : DistO [] := ⟨List.Pairwise.nil, by simp⟩
theorem DistO.begin_ {fs : List MFam} {n : ByteArray} (h : DistO fs) (hk : knownO fs n.data.toList = false) : DistO (fs ++ [newF n]) := by
  refine ⟨?_, fun f hf => ?_⟩
  · rw [List.pairwise_append]
    refine ⟨h.names, List.pairwise_singleton _ _, fun a ha b hb e => ?_⟩
    rw [List.mem_singleton] at hb
    subst hb
    have : knownO fs n.data.toList = true := by
      unfold knownO
      rw [List.any_eq_true]
      exact ⟨a, ha, by rw [beq_iff_eq]; exact e⟩
    rw [hk] at this; cases this
  · rcases List.mem_append.1 hf with h1 | h1
    · exact h.pts f h1
    · rw [List.mem_singleton] at h1; subst h1; exact List.Pairwise.nil
theorem DistO.last_ {fs : List MFam} {g : MFam → MFam} (h : DistO fs) (hg : ∀ f, fs.getLast? = some f → (g f).name = f.name ∧ (g f).pts.Pairwise fun a b => cmpPnt b a ≠ 0) : DistO (onLast fs g) := by
  unfold onLast
  cases hl : fs.getLast? with
  | none => simp only; exact h
  | some x =>
    simp only
    obtain ⟨e1, e2⟩ := hg x hl
    have hne : fs ≠ [] := fun e => by rw [e] at hl; simp at hl
    have hf : fs = fs.dropLast ++ [x] := by
      obtain ⟨ys, e⟩ := List.getLast?_eq_some_iff.1 hl
      subst e
      simp
    have h1 := h.names
    rw [hf, List.pairwise_append] at h1
    refine ⟨?_, fun f hm => ?_⟩
    · rw [List.pairwise_append]
      refine ⟨h1.1, List.pairwise_singleton _ _, fun a ha b hb => ?_⟩
      rw [List.mem_singleton] at hb
      subst hb
      rw [e1]
      exact h1.2.2 a ha x (by simp)
    · rcases List.mem_append.1 hm with h2 | h2
      · exact h.pts f (by rw [hf]; exact List.mem_append_left _ h2)
      · rw [List.mem_singleton] at h2; subst h2; exact e2
theorem DistO.keep {fs : List MFam} {g : MFam → MFam} (h : DistO fs) (hn : ∀ f, (g f).name = f.name) (hp : ∀ f, (g f).pts = f.pts) : DistO (onLast fs g) :=
  h.last_ fun f hf => ⟨hn f, by rw [hp]; exact h.pts f (List.mem_of_getLast? hf)⟩
theorem named_dist {r q : ORd} {x : MRow} (h : namedO r x = .ok q) (hd : DistO r.fams) : DistO q.fams := by
  unfold namedO at h
  split at h
  · cases h
  split at h
  · split at h
    · split at h
      · cases h
      · injection h with h; subst h; exact hd
    · cases h
  · rename_i hk
    split at h
    · cases h
    · injection h with h; subst h
      exact hd.begin_ (by simpa using hk)
theorem tells_dist {r q : ORd} {x : MRow} (h : tellsO r x = .ok q) (hd : DistO r.fams) : DistO q.fams := by
  unfold tellsO at h
  cases hn : namedO r x with
  | error e => rw [hn] at h; cases h
  | ok p =>
    rw [hn] at h
    have hp := named_dist hn hd
    simp only at h
    split at h
    · split at h
      · cases h
      · injection h with h; subst h
        exact hp.keep (fun _ => rfl) (fun _ => rfl)
    split at h
    · cases h
    split at h
    · injection h with h; subst h
      exact hp.keep (fun _ => rfl) (fun _ => rfl)
    split at h
    · cases h
    · injection h with h; subst h
      exact hp.keep (fun _ => rfl) (fun _ => rfl)
theorem owner_dist {r q : ORd} {x : MRow} {role : Nat} (h : ownerO r x = .ok (role, q)) (hd : DistO r.fams) : DistO q.fams := by
  unfold ownerO at h
  split at h
  · injection h with h; injection h with h1 h2; subst h2; exact hd
  · split at h
    · cases h
    split at h
    · cases h
    · rename_i hk
      split at h
      · cases h
      · injection h with h; injection h with h1 h2; subst h2
        exact hd.begin_ (by simpa using hk)
theorem sample_dist {r q : ORd} {x : MRow} (h : sampleO r x = .ok q) (hd : DistO r.fams) : DistO q.fams := by
  unfold sampleO at h
  split at h
  · cases h
  rename_i role p hp
  have h1 := owner_dist hp hd
  split at h
  · cases h
  split at h
  · cases h
  split at h
  · cases h
  simp only at h
  split at h
  · cases h
  rename_i hany
  split at h
  · cases h
  · injection h with h; subst h
    refine h1.last_ fun f hf => ⟨rfl, ?_⟩
    rw [List.pairwise_append]
    refine ⟨h1.pts f (List.mem_of_getLast? hf), List.pairwise_singleton _ _, fun a ha b hb => ?_⟩
    rw [List.mem_singleton] at hb
    subst hb
    rw [hf] at hany
    simp only [Option.map_some, Option.getD_some, Bool.not_eq_true, List.any_eq_false] at hany
    have := hany a ha
    unfold samePnt at this
    simpa using this
theorem all_dist {q : ORd} : ∀ (xs : List MRow) (r : ORd), allO xs r = .ok q → DistO r.fams → DistO q.fams
  | [], r, h, hd => by
    simp only [allO] at h
    injection h with h; subst h; exact hd
  | x :: xs, r, h, hd => by
    unfold allO at h
    split at h
    · cases h
    · rename_i p hp
      refine all_dist xs p h ?_
      unfold rowO at hp
      split at hp
      · exact sample_dist hp hd
      · exact tells_dist hp hd
/-- A family with its points in order. -/
def sortF (f : MFam) : MFam := { f with pts := sortC cmpPntK f.pts }
def cmpFamN (x y : MFam) : Int := Lib.compareBytes x.name.data.toList y.name.data.toList
/-- What is read. -/
def readR (l : List UInt8) : Except OErr (List MFam) := match readO l with
  | .error e => .error e
  | .ok fs => .ok (sortC cmpFamN (fs.map sortF))
end
section
section
variable {α : Type} {lt : α → α → Bool}
/-- What is asked of a comparison. -/
structure WeakO (lt : α → α → Bool) : Prop where
  asym : ∀ x y, lt x y = true → lt y x = false
  ntr : ∀ x y z, lt y x = false → lt z y = false → lt z x = false
/-- A row that rises. -/
def Rises (lt : α → α → Bool) (l : List α) : Prop := l.Pairwise fun x y => lt y x = false
theorem rises_at {l : List α} (h : Rises lt l) {i j : Nat} {x y : α} (hx : l[i]? = some x) (hy : l[j]? = some y) (hij : i < j) : lt y x = false := by
  obtain ⟨hi, e1⟩ := List.getElem?_eq_some_iff.1 hx
  obtain ⟨hj, e2⟩ := List.getElem?_eq_some_iff.1 hy
  have := List.pairwise_iff_getElem.1 h i j hi hj hij
  rw [e1, e2] at this
  exact this
theorem rises_le {l : List α} (w : WeakO lt) (h : Rises lt l) {i j : Nat} {x y : α} (hx : l[i]? = some x) (hy : l[j]? = some y) (hij : i ≤ j) : lt y x = false := by
  rcases Nat.lt_or_eq_of_le hij with h1 | rfl
  · exact rises_at h hx hy h1
  · rw [hx] at hy
    injection hy with hy
    subst hy
    cases hq : lt x x
    · rfl
    · have := w.asym x x hq
      rw [this] at hq; exact absurd hq (by simp)
/-- Two rising rows, cut where the merging cuts them: whatever stands left is not above what stands right. -/
theorem cut_le (w : WeakO lt) {A B : List α} (hA : Rises lt A) (hB : Rises lt B) {i j : Nat} (hi : i ≤ A.length) (hj : j ≤ B.length)
    (h1 : ∀ x y, 0 < i → A[i - 1]? = some x → B[j]? = some y → lt y x = false) (h2 : ∀ x y, 0 < j → B[j - 1]? = some x → A[i]? = some y → lt x y = true) :
    ∀ x ∈ A.take i ++ B.take j, ∀ y ∈ A.drop i ++ B.drop j, lt y x = false := by
  intro x hx y hy
  have tk : ∀ (l : List α) (k : Nat) (z : α), z ∈ l.take k → ∃ n, n < k ∧ l[n]? = some z := fun l k z hz => by
    obtain ⟨n, hn, e⟩ := List.getElem_of_mem hz
    rw [List.length_take] at hn
    refine ⟨n, by omega, ?_⟩
    rw [List.getElem_take] at e
    rw [List.getElem?_eq_getElem (by omega), e]
  have dr : ∀ (l : List α) (k : Nat) (z : α), z ∈ l.drop k → ∃ n, k ≤ n ∧ l[n]? = some z := fun l k z hz => by
    obtain ⟨n, hn, e⟩ := List.getElem_of_mem hz
    rw [List.length_drop] at hn
    refine ⟨k + n, by omega, ?_⟩
    rw [List.getElem_drop] at e
    rw [List.getElem?_eq_getElem (by omega), e]
  rcases List.mem_append.1 hx with hx | hx <;> rcases List.mem_append.1 hy with hy | hy
  · obtain ⟨a, ha, ea⟩ := tk _ _ _ hx
    obtain ⟨b, hb, eb⟩ := dr _ _ _ hy
    exact rises_at hA ea eb (by omega)
  · obtain ⟨a, ha, ea⟩ := tk _ _ _ hx
    obtain ⟨b, hb, eb⟩ := dr _ _ _ hy
    -- A[a] ≤ A[i-1] ≤ B[j] ≤ B[b]
    obtain ⟨hbl, _⟩ := List.getElem?_eq_some_iff.1 eb
    obtain ⟨hal, _⟩ := List.getElem?_eq_some_iff.1 ea
    by_cases hi1 : i - 1 < A.length
    · have e1 := List.getElem?_eq_getElem hi1
      have e2 : B[j]? = some (B[j]'(by omega)) := List.getElem?_eq_getElem (by omega)
      have k1 := rises_le w hA ea e1 (by omega)
      have k2 := h1 _ _ (by omega) e1 e2
      have k3 := rises_le w hB e2 eb hb
      exact w.ntr _ _ _ (w.ntr _ _ _ k1 k2) k3
    · -- then the whole of A stands left; A's last one
      exact absurd hi1 (by omega)
  · obtain ⟨a, ha, ea⟩ := tk _ _ _ hx
    obtain ⟨b, hb, eb⟩ := dr _ _ _ hy
    -- B[a] ≤ B[j-1] < A[i] ≤ A[b]
    obtain ⟨hbl, _⟩ := List.getElem?_eq_some_iff.1 eb
    obtain ⟨hal, _⟩ := List.getElem?_eq_some_iff.1 ea
    by_cases hj1 : j - 1 < B.length
    · have e1 := List.getElem?_eq_getElem hj1
      have e2 : A[i]? = some (A[i]'(by omega)) := List.getElem?_eq_getElem (by omega)
      have k1 := rises_le w hB ea e1 (by omega)
      have k2 := w.asym _ _ (h2 _ _ (by omega) e1 e2)
      have k3 := rises_le w hA e2 eb hb
      exact w.ntr _ _ _ (w.ntr _ _ _ k1 k2) k3
    · exact absurd hj1 (by omega)
  · obtain ⟨a, ha, ea⟩ := tk _ _ _ hx
    obtain ⟨b, hb, eb⟩ := dr _ _ _ hy
    exact rises_at hB ea eb (by omega)
/-- The two halves, each merged, are the whole, merged. -/
theorem merge_two (w : WeakO lt) {A B C D : List α} {i j : Nat} (hA : Rises lt A) (hB : Rises lt B) (hi : i ≤ A.length) (hj : j ≤ B.length)
    (h1 : ∀ x y, 0 < i → A[i - 1]? = some x → B[j]? = some y → lt y x = false) (h2 : ∀ x y, 0 < j → B[j - 1]? = some x → A[i]? = some y → lt x y = true)
    (pC : C.Perm (A.take i ++ B.take j)) (pD : D.Perm (A.drop i ++ B.drop j)) (rC : Rises lt C) (rD : Rises lt D) : (C ++ D).Perm (A ++ B) ∧ Rises lt (C ++ D) := by
  refine ⟨?_, ?_⟩
  · have e : (A.take i ++ B.take j ++ (A.drop i ++ B.drop j)).Perm (A ++ B) := by
      have e1 : A ++ B = (A.take i ++ A.drop i) ++ (B.take j ++ B.drop j) := by rw [List.take_append_drop, List.take_append_drop]
      rw [e1, List.append_assoc, List.append_assoc]
      refine List.Perm.append_left _ ?_
      rw [← List.append_assoc, ← List.append_assoc]
      exact List.Perm.append_right _ List.perm_append_comm
    exact (List.Perm.append pC pD).trans e
  · unfold Rises
    rw [List.pairwise_append]
    exact ⟨rC, rD, fun x hx y hy => cut_le w hA hB hi hj h1 h2 x (pC.mem_iff.1 hx) y (pD.mem_iff.1 hy)⟩
theorem rises_take {l : List α} (h : Rises lt l) (k : Nat) : Rises lt (l.take k) := List.Pairwise.sublist (List.take_sublist _ _) h
theorem rises_drop {l : List α} (h : Rises lt l) (k : Nat) : Rises lt (l.drop k) := List.Pairwise.sublist (List.drop_sublist _ _) h
end
end
end Go.Proofs.YtcapbikelgcmmaaGreatDoor
