/- Well-formed bytes: what utf and the reference answer, as plain functions (no program in sight). A text that is gone through from the left: what the scanner and the reference's answer, as plain functions (no program in sight). Rows of a payload, their tags, their fields, as data and as cells (no program in sight). The line format: a text's rows, and where it can't go on, as plain functions (no program in sight). Classes of bytes (no program in sight). The counting format: a text's rows, and where it can't go on, as plain functions (no program in sight). Decimals: what a text says, as plain functions (no program in sight). Wide numbers: four words as a number (no program in sight). Decimals by wide numbers, as plain functions (no program in sight). Labels: what the package and the reference answer, as plain functions (no program in sight). Events of the counting format: what a row says, as plain functions (no program in sight). Bounds on a text's rows (no program in sight). -/
import Derived.Test.YtpknjngjkdnpiaaGreatDoorMgA
import Derived.Sort.Walk0
import Derived.Lib.Bytealg
namespace Go.Proofs.YtpknjngjkdnpiaaGreatDoor
set_option linter.unusedVariables false
set_option linter.unusedSimpArgs false
open Go.RowKit
/-- How many bytes a first byte begins; 0: none. -/
def uSize (c : Int) : Nat := if c < 128 then 1 else if c < 194 then 0 else if c < 224 then 2 else if c < 240 then 3 else if c < 245 then 4 else 0
def uLo (c : Int) : Int := if c = 224 then 160 else if c = 240 then 144 else 128
def uHi (c : Int) : Int := if c = 237 then 159 else if c = 244 then 143 else 191
def kLo (c : Int) (k : Nat) : Int := if k = 1 then uLo c else 128
def kHi (c : Int) (k : Nat) : Int := if k = 1 then uHi c else 191
/-- Is the k-th byte behind a place such as it must be? -/
def tailB (l : List UInt8) (at_ k : Nat) : Bool := decide (at_ + k < l.length) && (decide (kLo (bt l at_) k ≤ bt l (at_ + k)) && decide (bt l (at_ + k) ≤ kHi (bt l at_) k))
/-- From the k-th byte on: how many bytes are a scalar's, are these all of it? -/
def frGo (l : List UInt8) (at_ n : Nat) : Nat → Nat → Nat × Bool
  | 0, k => (k, true)
  | f + 1, k => if k < n then (if tailB l at_ k = true then frGo l at_ n f (k + 1) else (k, false)) else (n, true)
def frontU (l : List UInt8) (at_ : Nat) : Nat × Bool := if uSize (bt l at_) = 0 then (0, false) else frGo l at_ (uSize (bt l at_)) 4 1
theorem uSize_le (c : Int) : uSize c ≤ 4 := by unfold uSize; (repeat' split) <;> omega
theorem frGo_le (l : List UInt8) (at_ n : Nat) : ∀ f k, k ≤ n → n ≤ f + k → at_ + k ≤ l.length → (frGo l at_ n f k).1 ≤ n ∧ at_ + (frGo l at_ n f k).1 ≤ l.length ∧ k ≤ (frGo l at_ n f k).1 ∧ ((frGo l at_ n f k).2 = true → (frGo l at_ n f k).1 = n)
  | 0, k, h, h2, h3 => ⟨h, h3, Nat.le_refl _, fun _ => by show k = n; omega⟩
  | f + 1, k, h, h2, h3 => by
    unfold frGo
    by_cases hk : k < n
    · rw [if_pos hk]
      by_cases ht : tailB l at_ k = true
      · rw [if_pos ht]
        have : at_ + (k + 1) ≤ l.length := by
          unfold tailB at ht
          simp only [Bool.and_eq_true, decide_eq_true_eq] at ht
          omega
        have ih := frGo_le l at_ n f (k + 1) (by omega) (by omega) this
        exact ⟨ih.1, ih.2.1, by omega, ih.2.2.2⟩
      · rw [if_neg ht]
        exact ⟨h, h3, Nat.le_refl _, fun h => by cases h⟩
    · rw [if_neg hk]
      have : k = n := by omega
      subst this
      exact ⟨Nat.le_refl _, h3, Nat.le_refl _, fun _ => rfl⟩
theorem front_le (l : List UInt8) (at_ : Nat) (h : at_ < l.length) : (frontU l at_).1 ≤ 4 ∧ at_ + (frontU l at_).1 ≤ l.length ∧ ((frontU l at_).2 = true → 1 ≤ (frontU l at_).1) := by
  unfold frontU
  have h4 := uSize_le (bt l at_)
  split
  · exact ⟨by simp, by simp; omega, fun h => by cases h⟩
  · have := frGo_le l at_ (uSize (bt l at_)) 4 1 (by omega) (by omega) (by omega)
    exact ⟨by omega, this.2.1, fun _ => this.2.2.1⟩
/-- How far a text can go that isn't well-formed; -1: it is. -/
def badGo (l : List UInt8) : Nat → Nat → Int
  | 0, _ => -1
  | f + 1, at_ => if at_ < l.length then (if (frontU l at_).2 = true then badGo l f (at_ + (frontU l at_).1) else (at_ : Int) + (frontU l at_).1) else -1
def badU (l : List UInt8) : Int := badGo l l.length 0
theorem badGo_bd (l : List UInt8) : ∀ f at_, at_ ≤ l.length → -1 ≤ badGo l f at_ ∧ badGo l f at_ ≤ l.length
  | 0, at_, _ => ⟨by simp [badGo], by simp only [badGo]; omega⟩
  | f + 1, at_, h => by
    unfold badGo
    split
    · rename_i hlt
      have hf := front_le l at_ hlt
      split
      · exact badGo_bd l f _ hf.2.1
      · omega
    · omega
theorem badU_bd (l : List UInt8) : -1 ≤ badU l ∧ badU l ≤ l.length := badGo_bd l _ _ (Nat.zero_le _)
def mkS (l : List UInt8) : ByteArray := ⟨l.toArray⟩
/-- Is there a byte at a place, and may it go on? -/
def pkB (l : List UInt8) (a : Nat) (no : Bool) : Bool := !no && decide (a < l.length)
/-- Is the next byte that one? -/
def isB (l : List UInt8) (a : Nat) (no : Bool) (c : Int) : Bool := pkB l a no && (bt l a == c)
def takeA (l : List UInt8) (a : Nat) (no : Bool) (c : Int) : Nat := if isB l a no c then a + 1 else a
/-- A word: how far, does it stop? -/
def wordS (l : List UInt8) : List UInt8 → Nat → Bool → Nat × Bool
  | [], a, no => (a, no)
  | c :: cs, a, no => if no then (a, true) else if isB l a false c.toNat then wordS l cs (a + 1) false else (a, true)
/-- Bytes of a class. -/
def whA (l : List UInt8) (p : Int → Bool) (a : Nat) : Nat := a + ((l.drop a).takeWhile fun c => p c.toNat).length
def someS (l : List UInt8) (p : Int → Bool) (a : Nat) (no : Bool) : Nat × Bool := if no then (a, true) else (whA l p a, whA l p a == a)
def digB (c : Int) : Bool := decide (48 ≤ c) && decide (c ≤ 57)
def letB (c : Int) : Bool := decide (97 ≤ c) && decide (c ≤ 122) || decide (65 ≤ c) && decide (c ≤ 90)
def numS (l : List UInt8) (a : Nat) (no : Bool) : Nat × Bool := if no then (a, true) else someS l digB (takeA l a false 45) false
def decS (l : List UInt8) (a : Nat) (no : Bool) : Nat × Bool :=
  if (numS l a no).2 then numS l a no else if isB l (numS l a no).1 false 46 then someS l digB ((numS l a no).1 + 1) false else numS l a no
/-- The bytes from a place up to another one. -/
def cutL (l : List UInt8) (a b : Nat) : List UInt8 := (l.drop a).take (b - a)
/-- Is there behind a place one of some signs? -/
def escB (l : List UInt8) (m : List UInt8) (a : Nat) : Bool := decide (a + 1 < l.length) && m.any fun c => bt l (a + 1) == c.toNat
/-- Scalars up to a byte that ends them. -/
def inkS (l : List UInt8) (e : Int) (m : List UInt8) (n : Int) : Nat → Nat → List UInt8 → List UInt8 × Nat × Bool
  | 0, a, acc => (acc, a, true)
  | f + 1, a, acc =>
    if l.length ≤ a then (acc, a, true)
    else if bt l a = e then (acc, a, false)
    else if bt l a = 10 then (acc, a, true)
    else if bt l a = 92 then (if escB l m a then inkS l e m n f (a + 2) (acc ++ [if bt l (a + 1) = n then 10 else l.getD (a + 1) 0]) else (acc, a + 1, true))
    else if (frontU l a).2 then inkS l e m n f (a + (frontU l a).1) (acc ++ cutL l a (a + (frontU l a).1))
    else (acc ++ cutL l a (a + (frontU l a).1), a + (frontU l a).1, true)
/-- Bytes from 33 to 126 but some; wide: scalars, too. -/
def sgnS (l : List UInt8) (m : List UInt8) (wide : Bool) : Nat → Nat → List UInt8 → List UInt8 × Nat × Bool
  | 0, a, acc => (acc, a, true)
  | f + 1, a, acc =>
    if l.length ≤ a then (acc, a, false)
    else if bt l a = 92 then (if escB l m a then sgnS l m wide f (a + 2) (acc ++ [l.getD (a + 1) 0]) else (acc, a + 1, true))
    else if wide = true ∧ 127 < bt l a then (if (frontU l a).2 then sgnS l m wide f (a + (frontU l a).1) (acc ++ cutL l a (a + (frontU l a).1)) else (acc ++ cutL l a (a + (frontU l a).1), a + (frontU l a).1, true))
    else if 32 < bt l a ∧ bt l a < 127 ∧ (m.any fun c => bt l a == c.toNat) = false then sgnS l m wide f (a + 1) (acc ++ [l.getD a 0])
    else (acc, a, false)
def ink (l : List UInt8) (e : Int) (m : List UInt8) (n : Int) (a : Nat) (no : Bool) : List UInt8 × Nat × Bool := if no then ([], a, true) else inkS l e m n (l.length + 1) a []
def sgn (l : List UInt8) (m : List UInt8) (wide : Bool) (a : Nat) (no : Bool) : List UInt8 × Nat × Bool :=
  if no then ([], a, true) else ((sgnS l m wide (l.length + 1) a []).1, (sgnS l m wide (l.length + 1) a []).2.1, (sgnS l m wide (l.length + 1) a []).2.2 || (sgnS l m wide (l.length + 1) a []).2.1 == a)
/-- What Inked tells: nothing, if it stops. -/
def inkV (l : List UInt8) (e : Int) (m : List UInt8) (n : Int) (a : Nat) (no : Bool) : List UInt8 := if (ink l e m n a no).2.2 then [] else (ink l e m n a no).1
theorem pkB_bt {l : List UInt8} {a : Nat} (h : a < l.length) : pkB l a false = true := by simp [pkB, h]
theorem pkB_end {l : List UInt8} {a : Nat} {no : Bool} (h : l.length ≤ a) : pkB l a no = false := by simp [pkB]; intro _; omega
theorem isB_no (l : List UInt8) (a : Nat) (c : Int) : isB l a true c = false := rfl
theorem isB_lt {l : List UInt8} {a : Nat} {no : Bool} {c : Int} (h : isB l a no c = true) : a < l.length ∧ no = false ∧ bt l a = c := by
  simpa [isB, pkB, and_assoc, and_comm, and_left_comm] using h
theorem wordS_le (l : List UInt8) : ∀ w a no, a ≤ l.length → a ≤ (wordS l w a no).1 ∧ (wordS l w a no).1 ≤ l.length
  | [], a, no, h => ⟨Nat.le_refl _, h⟩
  | c :: cs, a, no, h => by
    unfold wordS
    split
    · exact ⟨Nat.le_refl _, h⟩
    · split
      · rename_i hi
        have := (isB_lt hi).1
        have ih := wordS_le l cs (a + 1) false (by omega)
        exact ⟨by omega, ih.2⟩
      · exact ⟨Nat.le_refl _, h⟩
theorem whA_le (l : List UInt8) (p : Int → Bool) (a : Nat) (h : a ≤ l.length) : a ≤ whA l p a ∧ whA l p a ≤ l.length := by
  unfold whA
  have : ((l.drop a).takeWhile fun c => p c.toNat).length ≤ (l.drop a).length := List.Sublist.length_le (List.takeWhile_sublist _)
  rw [List.length_drop] at this
  omega
theorem someS_le (l : List UInt8) (p : Int → Bool) (a : Nat) (no : Bool) (h : a ≤ l.length) : a ≤ (someS l p a no).1 ∧ (someS l p a no).1 ≤ l.length := by
  unfold someS
  split
  · exact ⟨Nat.le_refl _, h⟩
  · exact whA_le l p a h
theorem takeA_le (l : List UInt8) (a : Nat) (no : Bool) (c : Int) (h : a ≤ l.length) : a ≤ takeA l a no c ∧ takeA l a no c ≤ l.length := by
  unfold takeA
  split
  · rename_i hi
    have := (isB_lt hi).1
    omega
  · omega
theorem numS_le (l : List UInt8) (a : Nat) (no : Bool) (h : a ≤ l.length) : a ≤ (numS l a no).1 ∧ (numS l a no).1 ≤ l.length := by
  unfold numS
  split
  · exact ⟨Nat.le_refl _, h⟩
  · have h1 := takeA_le l a false 45 h
    have h2 := someS_le l digB (takeA l a false 45) false h1.2
    omega
theorem decS_le (l : List UInt8) (a : Nat) (no : Bool) (h : a ≤ l.length) : a ≤ (decS l a no).1 ∧ (decS l a no).1 ≤ l.length := by
  unfold decS
  have h1 := numS_le l a no h
  split
  · exact h1
  · split
    · rename_i hi
      have := (isB_lt hi).1
      have h2 := someS_le l digB ((numS l a no).1 + 1) false (by omega)
      omega
    · exact h1
theorem cutL_len (l : List UInt8) (a b : Nat) (h : b ≤ l.length) : (cutL l a b).length = b - a := by
  unfold cutL; rw [List.length_take, List.length_drop]; omega
/-- A step of the class: the next byte is one. -/
theorem whA_yes {l : List UInt8} {p : Int → Bool} {a : Nat} (h : a < l.length) (k : p (bt l a) = true) : whA l p a = whA l p (a + 1) := by
  unfold whA
  rw [List.drop_eq_getElem_cons h, List.takeWhile_cons, if_pos (by rw [← bt_get h]; exact k)]
  simp; omega
theorem whA_no {l : List UInt8} {p : Int → Bool} {a : Nat} (h : a < l.length) (k : p (bt l a) = false) : whA l p a = a := by
  unfold whA
  rw [List.drop_eq_getElem_cons h, List.takeWhile_cons, if_neg (by rw [← bt_get h, k]; simp)]
  simp
theorem whA_end {l : List UInt8} {p : Int → Bool} {a : Nat} (h : l.length ≤ a) : whA l p a = a := by
  unfold whA; rw [List.drop_of_length_le h]; simp
theorem escB_lt {l m : List UInt8} {a : Nat} (h : escB l m a = true) : a + 1 < l.length := by
  simp [escB] at h; exact h.1
theorem inkS_le (l : List UInt8) (e : Int) (m : List UInt8) (n : Int) : ∀ f a acc, a ≤ l.length → a ≤ (inkS l e m n f a acc).2.1 ∧ (inkS l e m n f a acc).2.1 ≤ l.length ∧ (inkS l e m n f a acc).1.length ≤ acc.length + ((inkS l e m n f a acc).2.1 - a)
  | 0, a, acc, h => ⟨Nat.le_refl _, h, by simp [inkS]⟩
  | f + 1, a, acc, h => by
    unfold inkS
    by_cases h1 : l.length ≤ a
    · rw [if_pos h1]; exact ⟨Nat.le_refl _, h, by simp⟩
    rw [if_neg h1]
    by_cases h2 : bt l a = e
    · rw [if_pos h2]; exact ⟨Nat.le_refl _, h, by simp⟩
    rw [if_neg h2]
    by_cases h3 : bt l a = 10
    · rw [if_pos h3]; exact ⟨Nat.le_refl _, h, by simp⟩
    rw [if_neg h3]
    have hf := front_le l a (by omega)
    by_cases h4 : bt l a = 92
    · rw [if_pos h4]
      by_cases h5 : escB l m a = true
      · rw [if_pos h5]
        have := escB_lt h5
        have ih := inkS_le l e m n f (a + 2) (acc ++ [if bt l (a + 1) = n then 10 else l.getD (a + 1) 0]) (by omega)
        rw [List.length_append] at ih
        simp only [List.length_singleton] at ih
        exact ⟨by omega, ih.2.1, by omega⟩
      · rw [if_neg h5]; exact ⟨by simp, by simp; omega, by simp⟩
    rw [if_neg h4]
    by_cases h5 : (frontU l a).2 = true
    · rw [if_pos h5]
      have ih := inkS_le l e m n f (a + (frontU l a).1) (acc ++ cutL l a (a + (frontU l a).1)) hf.2.1
      rw [List.length_append, cutL_len l a _ hf.2.1] at ih
      exact ⟨by omega, ih.2.1, by omega⟩
    · rw [if_neg h5]; exact ⟨by simp, hf.2.1, by simp only [List.length_append, cutL_len l a _ hf.2.1]; omega⟩
theorem sgnS_le (l : List UInt8) (m : List UInt8) (wide : Bool) : ∀ f a acc, a ≤ l.length → a ≤ (sgnS l m wide f a acc).2.1 ∧ (sgnS l m wide f a acc).2.1 ≤ l.length ∧ (sgnS l m wide f a acc).1.length ≤ acc.length + ((sgnS l m wide f a acc).2.1 - a)
  | 0, a, acc, h => ⟨Nat.le_refl _, h, by simp [sgnS]⟩
  | f + 1, a, acc, h => by
    unfold sgnS
    by_cases h1 : l.length ≤ a
    · rw [if_pos h1]; exact ⟨Nat.le_refl _, h, by simp⟩
    rw [if_neg h1]
    have hf := front_le l a (by omega)
    by_cases h4 : bt l a = 92
    · rw [if_pos h4]
      by_cases h5 : escB l m a = true
      · rw [if_pos h5]
        have := escB_lt h5
        have ih := sgnS_le l m wide f (a + 2) (acc ++ [l.getD (a + 1) 0]) (by omega)
        rw [List.length_append] at ih
        simp only [List.length_singleton] at ih
        exact ⟨by omega, ih.2.1, by omega⟩
      · rw [if_neg h5]; exact ⟨by simp, by simp; omega, by simp⟩
    rw [if_neg h4]
    by_cases h2 : wide = true ∧ 127 < bt l a
    · rw [if_pos h2]
      by_cases h5 : (frontU l a).2 = true
      · rw [if_pos h5]
        have ih := sgnS_le l m wide f (a + (frontU l a).1) (acc ++ cutL l a (a + (frontU l a).1)) hf.2.1
        rw [List.length_append, cutL_len l a _ hf.2.1] at ih
        exact ⟨by omega, ih.2.1, by omega⟩
      · rw [if_neg h5]; exact ⟨by simp, hf.2.1, by simp only [List.length_append, cutL_len l a _ hf.2.1]; omega⟩
    rw [if_neg h2]
    by_cases h3 : 32 < bt l a ∧ bt l a < 127 ∧ (m.any fun c => bt l a == c.toNat) = false
    · rw [if_pos h3]
      have ih := sgnS_le l m wide f (a + 1) (acc ++ [l.getD a 0]) (by omega)
      rw [List.length_append] at ih
      simp only [List.length_singleton] at ih
      exact ⟨by omega, ih.2.1, by omega⟩
    · rw [if_neg h3]; exact ⟨Nat.le_refl _, h, by simp⟩
theorem ink_le (l : List UInt8) (e : Int) (m : List UInt8) (n : Int) (a : Nat) (no : Bool) (h : a ≤ l.length) : a ≤ (ink l e m n a no).2.1 ∧ (ink l e m n a no).2.1 ≤ l.length ∧ (ink l e m n a no).1.length ≤ (ink l e m n a no).2.1 - a := by
  unfold ink
  split
  · exact ⟨Nat.le_refl _, h, by simp⟩
  · have := inkS_le l e m n (l.length + 1) a [] h
    simpa using this
theorem sgn_le (l : List UInt8) (m : List UInt8) (wide : Bool) (a : Nat) (no : Bool) (h : a ≤ l.length) : a ≤ (sgn l m wide a no).2.1 ∧ (sgn l m wide a no).2.1 ≤ l.length ∧ (sgn l m wide a no).1.length ≤ (sgn l m wide a no).2.1 - a := by
  unfold sgn
  split
  · exact ⟨Nat.le_refl _, h, by simp⟩
  · have := sgnS_le l m wide (l.length + 1) a [] h
    simpa using this
structure MTag where
  name : ByteArray
  value : ByteArray
  off : Nat
  pos : Nat
deriving Inhabited
structure MField where
  name : ByteArray
  value : ByteArray
  off : Nat
  pos : Nat
  kind : Nat
deriving Inhabited
structure MRow where
  kind : Nat
  name : ByteArray
  off : Nat
  tags : List MTag
  fields : List MField
  text : ByteArray
  pos : Nat
  timed : Bool
  time : ByteArray
  when_ : Nat
deriving Inhabited
def tagCell (t : MTag) : List Value := [.string t.name, .string t.value, .int .i64 t.off, .int .i64 t.pos]
def fieldCell (f : MField) : List Value := [.string f.name, .string f.value, .int .i64 f.off, .int .i64 f.pos, .int .i64 f.kind]
/-- A row and where its tags, its fields lie. -/
structure VRow where
  row : MRow
  tA : Option Addr
  tc : Nat
  fA : Option Addr
  fc : Nat
def rowCell (x : VRow) : List Value := [.int .i64 x.row.kind, .string x.row.name, .int .i64 x.row.off, .slice x.tA x.row.tags.length x.tc, .slice x.fA x.row.fields.length x.fc, .string x.row.text, .int .i64 x.row.pos, .bool x.row.timed, .string x.row.time, .int .i64 x.row.when_]
theorem rowCell_len (x : VRow) : (rowCell x).length = 10 := rfl
def inM : List UInt8 := [44, 32]
def inK : List UInt8 := [44, 32, 61]
def inT : List UInt8 := [34, 92]
def wTrue : List UInt8 := [116, 114, 117, 101]
def wFalse : List UInt8 := [102, 97, 108, 115, 101]
/-- A tag: its name, =, its value. -/
def tagS (l : List UInt8) (a : Nat) (no : Bool) : MTag × Nat × Bool :=
  let k := sgn l inK false a no
  let e := wordS l [61] k.2.1 k.2.2
  let v := sgn l inK true e.1 e.2
  (⟨mkS k.1, mkS v.1, a, e.1⟩, v.2)
def tagsS (l : List UInt8) : Nat → Nat → Bool → List MTag → List MTag × Nat × Bool
  | 0, a, _, acc => (acc, a, true)
  | f + 1, a, no, acc => if isB l a no 44 then tagsS l f (tagS l (a + 1) false).2.1 (tagS l (a + 1) false).2.2 (acc ++ [(tagS l (a + 1) false).1]) else (acc, a, no)
/-- What a field is: its kind, its value, where that begins. -/
def numberS (l : List UInt8) (a : Nat) (no : Bool) : (Nat × List UInt8 × Nat) × Nat × Bool :=
  let m := numS l a no
  if isB l m.1 m.2 105 then ((1, cutL l a m.1, a), m.1 + 1, false)
  else if !isB l a no 45 && isB l m.1 m.2 117 then ((2, cutL l a m.1, a), m.1 + 1, false)
  else if isB l m.1 m.2 46 then ((0, cutL l a m.1 ++ 46 :: cutL l (m.1 + 1) (someS l digB (m.1 + 1) false).1, a), someS l digB (m.1 + 1) false)
  else ((0, cutL l a m.1, a), m)
def toldS (l : List UInt8) (a : Nat) (no : Bool) : (Nat × List UInt8 × Nat) × Nat × Bool :=
  if isB l a no 116 then ((3, wTrue, a), wordS l wTrue a no)
  else if isB l a no 102 then ((3, wFalse, a), wordS l wFalse a no)
  else if isB l a no 34 then ((4, inkV l 34 inT 110 (a + 1) false, a + 1), wordS l [34] (ink l 34 inT 110 (a + 1) false).2.1 (ink l 34 inT 110 (a + 1) false).2.2)
  else numberS l a no
/-- .. -/
def fieldS (l : List UInt8) (a : Nat) (no : Bool) : MField × Nat × Bool :=
  let k := sgn l inK false a no
  let e := wordS l [61] k.2.1 k.2.2
  let t := toldS l e.1 e.2
  (⟨mkS k.1, mkS t.1.2.1, a, t.1.2.2, t.1.1⟩, t.2)
def fieldsS (l : List UInt8) : Nat → Nat → Bool → List MField → List MField × Nat × Bool
  | 0, a, _, acc => (acc, a, true)
  | f + 1, a, no, acc => if isB l (fieldS l a no).2.1 (fieldS l a no).2.2 44 then fieldsS l f ((fieldS l a no).2.1 + 1) false (acc ++ [(fieldS l a no).1]) else (acc ++ [(fieldS l a no).1], (fieldS l a no).2)
def lineS (l : List UInt8) (a : Nat) : MRow × Nat × Bool :=
  let n := sgn l inM false a (isB l a false 35)
  let t := tagsS l (l.length + 1) n.2.1 n.2.2 []
  let w := wordS l [32] t.2.1 t.2.2
  let f := fieldsS l (l.length + 1) w.1 w.2 []
  if isB l f.2.1 f.2.2 32 then
    (⟨0, mkS n.1, a, t.1, f.1, mkS [], 0, true, mkS (cutL l (f.2.1 + 1) (numS l (f.2.1 + 1) false).1), f.2.1 + 1⟩, wordS l [10] (numS l (f.2.1 + 1) false).1 (numS l (f.2.1 + 1) false).2)
  else (⟨0, mkS n.1, a, t.1, f.1, mkS [], 0, false, mkS [], 0⟩, wordS l [10] f.2.1 f.2.2)
def rowsGo (lineS : List UInt8 → Nat → MRow × Nat × Bool) (l : List UInt8) : Nat → Nat → List MRow → List MRow × Nat × Bool
  | 0, a, acc => (acc, a, true)
  | f + 1, a, acc => if l.length ≤ a then (acc, a, false) else if (lineS l a).2.2 then (acc, (lineS l a).2.1, true) else rowsGo lineS l f (lineS l a).2.1 (acc ++ [(lineS l a).1])
def lineRows (l : List UInt8) : List MRow × Nat × Bool := rowsGo lineS l (l.length + 1) 0 []
def lineBad (l : List UInt8) : Int := if (lineRows l).2.2 then ((lineRows l).2.1 : Int) else -1
def owLabel (c : Int) : Bool := letB c || (digB c || c == 95)
def owName (c : Int) : Bool := letB c || (digB c || (c == 95 || c == 58))
def smB (c : Int) : Bool := decide (97 ≤ c) && decide (c ≤ 122)
def stName (c : Int) : Bool := letB c || (digB c || (c == 95 || (c == 45 || c == 46)))
def stInk (c : Int) : Bool := decide (32 < c) && (decide (c < 127) && !(c == 124))
def stValue (c : Int) : Bool := stInk c && !(c == 44)
def dtNode (c : Int) : Bool := letB c || (digB c || (c == 95 || (c == 45 || c == 58)))
def dtInk (c : Int) : Bool := decide (32 < c) && (decide (c < 127) && !(c == 59))
def wMs : List UInt8 := [109, 115]
/-- What is counted. -/
def kindS (l : List UInt8) (a : Nat) (no : Bool) : Nat × Nat × Bool :=
  if isB l a no 99 then (1, a + 1, false) else if isB l a no 103 then (2, a + 1, false) else if isB l a no 115 then (5, a + 1, false) else (4, wordS l wMs a no)
/-- A tag: its name, :, its value. -/
def sTagS (l : List UInt8) (a : Nat) (no : Bool) : MTag × Nat × Bool :=
  let k := someS l stName a no
  let e := wordS l [58] k.1 k.2
  let v := someS l stValue e.1 e.2
  (⟨mkS (cutL l a k.1), mkS (cutL l e.1 v.1), a, e.1⟩, v)
def sTagsGo (l : List UInt8) : Nat → Nat → Bool → List MTag → List MTag × Nat × Bool
  | 0, a, _, acc => (acc, a, true)
  | f + 1, a, no, acc => if isB l (sTagS l a no).2.1 (sTagS l a no).2.2 44 then sTagsGo l f ((sTagS l a no).2.1 + 1) false (acc ++ [(sTagS l a no).1]) else (acc ++ [(sTagS l a no).1], (sTagS l a no).2)
/-- What stands behind a second bar: # and tags. -/
def sMoreS (l : List UInt8) (a : Nat) : List MTag × Nat × Bool := sTagsGo l (l.length + 1) (wordS l [35] a false).1 (wordS l [35] a false).2 []
def statLineS (l : List UInt8) (a : Nat) : MRow × Nat × Bool :=
  let n := someS l stName a false
  let w := wordS l [58] n.1 n.2
  let t := someS l stInk w.1 w.2
  let b := wordS l [124] t.1 t.2
  let k := kindS l b.1 b.2
  let nm := mkS (cutL l a n.1)
  let tx := mkS (cutL l w.1 t.1)
  if isB l k.2.1 k.2.2 124 then
    if isB l (k.2.1 + 1) false 64 then
      let d := decS l (k.2.1 + 2) false
      let tm := mkS (cutL l (k.2.1 + 2) d.1)
      if isB l d.1 d.2 124 then
        (⟨k.1, nm, a, (sMoreS l (d.1 + 1)).1, [], tx, w.1, true, tm, k.2.1 + 2⟩, wordS l [10] (sMoreS l (d.1 + 1)).2.1 (sMoreS l (d.1 + 1)).2.2)
      else (⟨k.1, nm, a, [], [], tx, w.1, true, tm, k.2.1 + 2⟩, wordS l [10] d.1 d.2)
    else (⟨k.1, nm, a, (sMoreS l (k.2.1 + 1)).1, [], tx, w.1, false, mkS [], 0⟩, wordS l [10] (sMoreS l (k.2.1 + 1)).2.1 (sMoreS l (k.2.1 + 1)).2.2)
  else (⟨k.1, nm, a, [], [], tx, w.1, false, mkS [], 0⟩, wordS l [10] k.2.1 k.2.2)
def statRows (l : List UInt8) : List MRow × Nat × Bool := rowsGo statLineS l (l.length + 1) 0 []
def statBad (l : List UInt8) : Int := if (statRows l).2.2 then ((statRows l).2.1 : Int) else -1
section
variable {l : List UInt8}
theorem kindS_le {a : Nat} (no : Bool) (h : a ≤ l.length) : a ≤ (kindS l a no).2.1 ∧ (kindS l a no).2.1 ≤ l.length := by
  unfold kindS
  split
  · rename_i hi; have := (isB_lt hi).1; exact ⟨by simp, by simp; omega⟩
  split
  · rename_i hi; have := (isB_lt hi).1; exact ⟨by simp, by simp; omega⟩
  split
  · rename_i hi; have := (isB_lt hi).1; exact ⟨by simp, by simp; omega⟩
  · exact wordS_le l wMs a no h
theorem sTagS_le {a : Nat} (no : Bool) (h : a ≤ l.length) : a ≤ (sTagS l a no).2.1 ∧ (sTagS l a no).2.1 ≤ l.length := by
  unfold sTagS
  simp only
  have h1 := someS_le l stName a no h
  generalize someS l stName a no = k at h1 ⊢
  have h2 := wordS_le l [58] k.1 k.2 h1.2
  generalize wordS l [58] k.1 k.2 = e at h2 ⊢
  have h3 := someS_le l stValue e.1 e.2 h2.2
  omega
theorem sTagsGo_le : ∀ f a no acc, a ≤ l.length → a ≤ (sTagsGo l f a no acc).2.1 ∧ (sTagsGo l f a no acc).2.1 ≤ l.length
  | 0, a, no, acc, h => ⟨Nat.le_refl _, h⟩
  | f + 1, a, no, acc, h => by
    have h1 := sTagS_le (l := l) no h
    unfold sTagsGo
    split
    · rename_i hi
      have := (isB_lt hi).1
      have ih := sTagsGo_le f ((sTagS l a no).2.1 + 1) false (acc ++ [(sTagS l a no).1]) (by omega)
      omega
    · exact h1
theorem sMoreS_le {a : Nat} (h : a ≤ l.length) : a ≤ (sMoreS l a).2.1 ∧ (sMoreS l a).2.1 ≤ l.length := by
  unfold sMoreS
  have h1 := wordS_le l [35] a false h
  have h2 := sTagsGo_le (l := l) (l.length + 1) (wordS l [35] a false).1 (wordS l [35] a false).2 [] h1.2
  omega
theorem statLineS_le {a : Nat} (h : a ≤ l.length) : a ≤ (statLineS l a).2.1 ∧ (statLineS l a).2.1 ≤ l.length := by
  unfold statLineS
  simp only
  have h1 := someS_le l stName a false h
  generalize someS l stName a false = n at h1 ⊢
  have h2 := wordS_le l [58] n.1 n.2 h1.2
  generalize wordS l [58] n.1 n.2 = w at h2 ⊢
  have h3 := someS_le l stInk w.1 w.2 h2.2
  generalize someS l stInk w.1 w.2 = t at h3 ⊢
  have h4 := wordS_le l [124] t.1 t.2 h3.2
  generalize wordS l [124] t.1 t.2 = b at h4 ⊢
  have h5 := kindS_le (l := l) b.2 h4.2
  generalize kindS l b.1 b.2 = k at h5 ⊢
  split
  · rename_i hi
    have hk := (isB_lt hi).1
    split
    · rename_i hj
      have hj := (isB_lt hj).1
      have h6 := decS_le l (k.2.1 + 2) false (by omega)
      generalize decS l (k.2.1 + 2) false = d at h6 ⊢
      split
      · rename_i hd
        have hd := (isB_lt hd).1
        have h7 := sMoreS_le (l := l) (a := d.1 + 1) (by omega)
        have h8 := wordS_le l [10] (sMoreS l (d.1 + 1)).2.1 (sMoreS l (d.1 + 1)).2.2 h7.2
        simp only; omega
      · have h8 := wordS_le l [10] d.1 d.2 h6.2
        simp only; omega
    · have h7 := sMoreS_le (l := l) (a := k.2.1 + 1) (by omega)
      have h8 := wordS_le l [10] (sMoreS l (k.2.1 + 1)).2.1 (sMoreS l (k.2.1 + 1)).2.2 h7.2
      simp only; omega
  · have h8 := wordS_le l [10] k.2.1 k.2.2 h5.2
    simp only; omega
end
/-- Is there a minus ahead? -/
def minusD (l : List UInt8) : Bool := bt l 0 == 45
def startD (l : List UInt8) : Nat := if minusD l then 1 else 0
/-- The digits ahead of a point, and behind it; else how far the text can go. -/
def cutD (l : List UInt8) : Option (List UInt8 × List UInt8) × Nat :=
  if whA l digB (startD l) == startD l || (decide (whA l digB (startD l) < l.length) && !(bt l (whA l digB (startD l)) == 46)) then (none, whA l digB (startD l))
  else if whA l digB (startD l) == l.length then (some (cutL l (startD l) (whA l digB (startD l)), []), whA l digB (startD l))
  else if whA l digB (whA l digB (startD l) + 1) == whA l digB (startD l) + 1 || decide (whA l digB (whA l digB (startD l) + 1) < l.length) then (none, whA l digB (whA l digB (startD l) + 1))
  else (some (cutL l (startD l) (whA l digB (startD l)), cutL l (whA l digB (startD l) + 1) (whA l digB (whA l digB (startD l) + 1))), whA l digB (whA l digB (startD l) + 1))
/-- The number that digits are; none: it is too great. -/
def numD : Nat → List UInt8 → Option Nat
  | n, [] => some n
  | n, c :: cs => if (9223372036854775807 - (c.toNat - 48)) / 10 < n then none else numD (n * 10 + (c.toNat - 48)) cs
def trimL0 (l : List UInt8) : List UInt8 := l.dropWhile (· == 48)
def trimR0 (l : List UInt8) : List UInt8 := (l.reverse.dropWhile (· == 48)).reverse
/-- A decimal (its number, how many digits behind the point), what is wrong (0: nothing), how far the text can go. -/
def parseD (l : List UInt8) : (Int × Nat) × Nat × Nat :=
  match cutD l with
  | (none, a) => ((0, 0), 11, a)
  | (some (w, p), _) =>
    match numD 0 (trimL0 w ++ trimR0 p) with
    | none => ((0, 0), 12, 0)
    | some m => if 18 < (trimR0 p).length then ((0, 0), 12, 0) else ((if minusD l then -(m : Int) else (m : Int), (trimR0 p).length), 0, 0)
theorem trimR0_len (l : List UInt8) : (trimR0 l).length ≤ l.length := by
  unfold trimR0
  rw [List.length_reverse]
  have := (List.dropWhile_sublist (l := l.reverse) (· == 48)).length_le
  simpa using this
theorem trimL0_len (l : List UInt8) : (trimL0 l).length ≤ l.length := (List.dropWhile_sublist (l := l) (· == 48)).length_le
theorem numD_le : ∀ (l : List UInt8) (n m : Nat), n ≤ 9223372036854775807 → (∀ c ∈ l, c.toNat ≤ 57) → numD n l = some m → m ≤ 9223372036854775807
  | [], n, m, h, _, e => by simp [numD] at e; omega
  | c :: cs, n, m, h, hc, e => by
    unfold numD at e
    split at e
    · cases e
    · have h1 := hc c List.mem_cons_self
      exact numD_le cs _ m (by omega) (fun d hd => hc d (List.mem_cons_of_mem _ hd)) e
/-- A word of a number. -/
def xw (v k : Nat) : Nat := v / 18446744073709551616 ^ k % 18446744073709551616
theorem xw_lt (v k : Nat) : xw v k < 18446744073709551616 := Nat.mod_lt _ (by decide)
/-- A word's product and what came before: the word that stays, what is carried on. -/
def carT (x : Nat → Nat) (n : Nat) : Nat → Nat
  | 0 => 0
  | k + 1 => (x k * n + carT x n k) / 18446744073709551616
def limT (x : Nat → Nat) (n k : Nat) : Nat := (x k * n + carT x n k) % 18446744073709551616
theorem carT_lt (x : Nat → Nat) (n : Nat) (hx : ∀ k, x k < 18446744073709551616) (hn : n < 18446744073709551616) : ∀ k, carT x n k < 18446744073709551616
  | 0 => by show 0 < _; decide
  | k + 1 => by
    have h := carT_lt x n hx hn k
    have h1 := hx k
    unfold carT
    rw [Nat.div_lt_iff_lt_mul (by decide)]
    have : x k * n ≤ 18446744073709551615 * 18446744073709551615 := Nat.mul_le_mul (by omega) (by omega)
    omega
theorem xw_step (v n k : Nat) (P : Nat) (hP : 0 < P) (B : Nat) : v / P % B * n + v % P * n / P = v % (P * B) * n / P := by
  rw [Nat.mod_mul, Nat.add_mul, Nat.mul_assoc, Nat.mul_comm P, Nat.add_mul_div_right _ _ hP, Nat.add_comm]
theorem carT_xw (v n : Nat) : ∀ k, carT (xw v) n k = v % 18446744073709551616 ^ k * n / 18446744073709551616 ^ k
  | 0 => by simp [carT, Nat.mod_one]
  | k + 1 => by
    show (xw v k * n + carT (xw v) n k) / 18446744073709551616 = _
    rw [carT_xw v n k]
    unfold xw
    rw [xw_step v n k _ (Nat.pow_pos (by decide)), Nat.div_div_eq_div_mul, ← Nat.pow_succ]
theorem limT_xw (v n k : Nat) : limT (xw v) n k = xw (v * n) k := by
  unfold limT
  rw [carT_xw]
  unfold xw
  rw [xw_step v n k _ (Nat.pow_pos (by decide))]
  have hP : 0 < 18446744073709551616 ^ k := Nat.pow_pos (by decide)
  generalize 18446744073709551616 ^ k = P at hP
  have h := Nat.div_add_mod v (P * 18446744073709551616)
  conv => rhs; rw [← h]
  rw [Nat.add_mul, Nat.mul_assoc, Nat.mul_assoc, Nat.add_comm, Nat.add_mul_div_left _ _ hP, Nat.add_mul_mod_self_left]
def cmpZ (a b : Nat) : Int := if a < b then -1 else if b < a then 1 else 0
/-- Which is less, from the top word on. -/
def cmpN (x y : Nat → Nat) : Nat → Int
  | 0 => 0
  | k + 1 => if x k < y k then -1 else if y k < x k then 1 else cmpN x y k
theorem cmpN_xw (v u : Nat) : ∀ k, cmpN (xw v) (xw u) k = cmpZ (v % 18446744073709551616 ^ k) (u % 18446744073709551616 ^ k)
  | 0 => by simp [cmpN, cmpZ, Nat.mod_one]
  | k + 1 => by
    have ih := cmpN_xw v u k
    have hp : (0 : Nat) < 18446744073709551616 ^ k := Nat.pow_pos (by decide)
    rw [Nat.pow_succ, Nat.mod_mul, Nat.mod_mul]
    unfold cmpN
    rw [ih]
    unfold xw
    have h1 := Nat.mod_lt v hp
    have h2 := Nat.mod_lt u hp
    generalize v % 18446744073709551616 ^ k = r at *
    generalize u % 18446744073709551616 ^ k = r' at *
    generalize v / 18446744073709551616 ^ k % 18446744073709551616 = q
    generalize u / 18446744073709551616 ^ k % 18446744073709551616 = q'
    generalize 18446744073709551616 ^ k = P at *
    unfold cmpZ
    by_cases c1 : q < q'
    · have h3 : P * (q + 1) ≤ P * q' := Nat.mul_le_mul_left P c1
      rw [Nat.mul_add, Nat.mul_one] at h3
      rw [if_pos c1, if_pos (by omega)]
    · rw [if_neg c1]
      by_cases c2 : q' < q
      · have h3 : P * (q' + 1) ≤ P * q := Nat.mul_le_mul_left P c2
        rw [Nat.mul_add, Nat.mul_one] at h3
        rw [if_pos c2, if_neg (by omega), if_pos (by omega)]
      · obtain rfl : q = q' := by omega
        rw [if_neg c2]
        (repeat' split) <;> omega
/-- Bits of a wide number. -/
def wMod : Nat := 18446744073709551616 ^ 4
/-- A number without its sign. -/
def absN (m : Int) : Nat := m.natAbs
/-- May a decimal be? -/
def goodD (M S : Int) : Bool := decide (0 ≤ S) && (decide (S ≤ 18) && (!(M == -9223372036854775808) && (S == 0 || !(M.tmod 10 == 0))))
/-- Without noughts behind the point. -/
def stripN : Nat → Nat → Nat × Nat
  | v, 0 => (v, 0)
  | v, s + 1 => if v % 10 = 0 then stripN (v / 10) s else (v, s + 1)
/-- A wide number as a decimal; false: it is none. -/
def decN (neg : Bool) (v s : Nat) : (Int × Nat) × Bool :=
  if v % wMod = 0 then ((0, 0), true)
  else if 18 < (stripN (v % wMod) s).2 ∨ 9223372036854775807 < (stripN (v % wMod) s).1 then ((0, 0), false)
  else ((if neg then -((stripN (v % wMod) s).1 : Int) else ((stripN (v % wMod) s).1 : Int), (stripN (v % wMod) s).2), true)
/-- A number without a divisor, and how often it was one. -/
def withoutN (q : Nat) : Nat → Nat → Nat × Nat
  | 0, n => (n, 0)
  | f + 1, n => if n % q = 0 then ((withoutN q f (n / q)).1, (withoutN q f (n / q)).2 + 1) else (n, 0)
/-- The quotient; false: it is none. -/
def overN (aM aS bM bS : Int) : (Int × Nat) × Bool :=
  if (goodD aM aS && goodD bM bS && !(bM == 0)) = false then ((0, 0), false)
  else
    let g := Nat.gcd (absN aM) (absN bM)
    let t := withoutN 2 64 (absN bM / g)
    let f := withoutN 5 64 t.1
    if f.1 ≠ 1 then ((0, 0), false)
    else
      let s := max t.2 f.2
      let w := absN aM / g * 2 ^ (s - t.2) * 5 ^ (s - f.2)
      let e : Int := (s : Int) + aS - bS
      let neg := (decide (aM < 0)) != (decide (bM < 0))
      if e < 0 then decN neg (w * 10 ^ (-e).toNat) 0 else decN neg w e.toNat
def countD (M S : Int) : Int × Nat := if goodD M S then (M, S.toNat) else (0, 0)
def numW (a : Int × Nat) (s : Nat) : Nat := absN a.1 * 10 ^ (s - a.2)
def cmpNum (n1 : Bool) (v : Nat) (n2 : Bool) (u : Nat) : Int :=
  if n1 && n2 then cmpZ (u % wMod) (v % wMod) else if n1 then -1 else if n2 then 1 else cmpZ (v % wMod) (u % wMod)
def cmpD (aM aS bM bS : Int) : Int :=
  let a := countD aM aS
  let b := countD bM bS
  let s := max a.2 b.2
  cmpNum (decide (a.1 < 0)) (numW a s) (decide (b.1 < 0)) (numW b s)
theorem withoutN_pos (q : Nat) (hq : 2 ≤ q) : ∀ f n, 0 < n → n < 2 ^ f → 0 < (withoutN q f n).1 ∧ (withoutN q f n).1 ≤ n ∧ (withoutN q f n).2 ≤ f
  | 0, n, h, k => by simp at k; omega
  | f + 1, n, h, k => by
    unfold withoutN
    split
    · rename_i hd
      have h1 : n / q < 2 ^ f := by
        rw [Nat.pow_succ] at k
        rw [Nat.div_lt_iff_lt_mul (by omega)]
        have : 2 ^ f * 2 ≤ 2 ^ f * q := Nat.mul_le_mul_left _ hq
        omega
      have h2 : 0 < n / q := Nat.div_pos (Nat.le_of_dvd h (Nat.dvd_of_mod_eq_zero hd)) (by omega)
      have ih := withoutN_pos q hq f (n / q) h2 h1
      have : n / q ≤ n := Nat.div_le_self _ _
      simp only; omega
    · exact ⟨h, Nat.le_refl _, Nat.zero_le _⟩
/-- Long division by ten, word by word, from the top: the rest ahead of a word. -/
def rstT (x : Nat → Nat) : Nat → Nat
  | 0 => 0
  | k + 1 => (rstT x k * 18446744073709551616 + x (3 - k)) % 10
def quoT (x : Nat → Nat) (k : Nat) : Nat := (rstT x k * 18446744073709551616 + x (3 - k)) / 10
theorem rstT_lt (x : Nat → Nat) : ∀ k, rstT x k < 10
  | 0 => by show 0 < 10; decide
  | k + 1 => Nat.mod_lt _ (by decide)
theorem quoT_lt (x : Nat → Nat) (hx : ∀ k, x k < 18446744073709551616) (k : Nat) : quoT x k < 18446744073709551616 := by
  have h1 := rstT_lt x k
  have h2 := hx (3 - k)
  unfold quoT
  omega
theorem ten_step (u : Nat) : ((u / 18446744073709551616) % 10 * 18446744073709551616 + u % 18446744073709551616) / 10 = u / 10 % 18446744073709551616 ∧ ((u / 18446744073709551616) % 10 * 18446744073709551616 + u % 18446744073709551616) % 10 = u % 10 := by
  obtain ⟨p, hp⟩ : ∃ p, u / 18446744073709551616 = p := ⟨_, rfl⟩
  obtain ⟨r, hr⟩ : ∃ r, u % 18446744073709551616 = r := ⟨_, rfl⟩
  obtain ⟨a, ha⟩ : ∃ a, p / 10 = a := ⟨_, rfl⟩
  obtain ⟨b, hb⟩ : ∃ b, p % 10 = b := ⟨_, rfl⟩
  have hu : u = 18446744073709551616 * (10 * a + b) + r := by omega
  rw [hp, hr, hb, hu]
  constructor
  · have : (18446744073709551616 * (10 * a + b) + r) / 10 = 18446744073709551616 * a + (b * 18446744073709551616 + r) / 10 := by omega
    rw [this]; omega
  · omega
theorem pow_step (v k : Nat) (h : k ≤ 3) : v / 18446744073709551616 ^ (4 - k) = v / 18446744073709551616 ^ (3 - k) / 18446744073709551616 := by
  obtain ⟨j, hj⟩ : ∃ j, 3 - k = j := ⟨_, rfl⟩
  have h4 : 4 - k = j + 1 := by omega
  rw [hj, h4, Nat.div_div_eq_div_mul, Nat.pow_succ]
theorem rst_xw (v : Nat) (hv : v < wMod) : ∀ k, k ≤ 4 → rstT (xw v) k = v / 18446744073709551616 ^ (4 - k) % 10
  | 0, _ => by
    unfold wMod at hv
    have h4 : v / 18446744073709551616 ^ (4 - 0) = 0 := Nat.div_eq_of_lt hv
    rw [h4, rstT]
  | k + 1, h => by
    have ih := rst_xw v hv k (by omega)
    have e1 : rstT (xw v) (k + 1) = (rstT (xw v) k * 18446744073709551616 + xw v (3 - k)) % 10 := by rw [rstT]
    rw [e1, ih, pow_step v k (by omega), show 4 - (k + 1) = 3 - k by omega]
    unfold xw
    exact (ten_step _).2
theorem quo_xw (v : Nat) (hv : v < wMod) (k : Nat) (h : k ≤ 3) : quoT (xw v) k = xw (v / 10) (3 - k) := by
  unfold quoT
  rw [rst_xw v hv k (by omega), pow_step v k h]
  have h2 : v / 10 / 18446744073709551616 ^ (3 - k) = v / 18446744073709551616 ^ (3 - k) / 10 := by rw [Nat.div_div_eq_div_mul, Nat.div_div_eq_div_mul, Nat.mul_comm]
  unfold xw
  rw [h2]
  exact (ten_step _).1
theorem rst_all (v : Nat) (hv : v < wMod) : rstT (xw v) 4 = v % 10 := by
  rw [rst_xw v hv 4 (by omega)]; simp
theorem xw_mod (v k : Nat) (h : k < 4) : xw (v % wMod) k = xw v k := by
  unfold xw wMod
  have e : (18446744073709551616 : Nat) ^ 4 = 18446744073709551616 ^ k * 18446744073709551616 ^ (4 - k) := by rw [← Nat.pow_add]; congr 1; omega
  rw [e, Nat.mod_mul_right_div_self, Nat.mod_mod_of_dvd]
  exact ⟨18446744073709551616 ^ (3 - k), by rw [← Nat.pow_succ', show (3 - k).succ = 4 - k by omega]⟩
abbrev Lab := ByteArray × ByteArray
def labCell (x : Lab) : List Value := [.string x.1, .string x.2]
def nmL (x : Lab) : List UInt8 := x.1.data.toList
def vlL (x : Lab) : List UInt8 := x.2.data.toList
/-- May a text be a name? -/
def inkB (l : List UInt8) : Bool := l.all fun c => decide (32 ≤ c.toNat) && decide (c.toNat ≠ 127)
def nameB (l : List UInt8) : Bool := inkB l && (decide (l ≠ []) && (decide (l.length ≤ 60) && decide (badU l < 0)))
def valB (l : List UInt8) : Bool := decide (l.length ≤ 60) && decide (badU l < 0)
theorem inkB_iff (l : List UInt8) : inkB l = true ↔ ∀ j, j < l.length → 32 ≤ bt l j ∧ bt l j ≠ 127 := by
  unfold inkB
  rw [List.all_eq_true]
  constructor
  · intro h j hj
    have := h _ (List.getElem_mem hj)
    simp only [Bool.and_eq_true, decide_eq_true_eq] at this
    rw [bt_get hj]; omega
  · intro h c hc
    obtain ⟨j, hj, rfl⟩ := List.getElem_of_mem hc
    have := h j hj
    rw [bt_get hj] at this
    simp only [Bool.and_eq_true, decide_eq_true_eq]; omega
/-- May labels be? -/
def goodAt (L : List Lab) (i : Nat) : Bool := nameB (nmL (L.getD i default)) && (valB (vlL (L.getD i default)) && (decide (i = 0) || decide (nmL (L.getD (i - 1) default) < nmL (L.getD i default))))
def goodTo (L : List Lab) (k : Nat) : Bool := (List.range k).all (goodAt L)
def goodL (L : List Lab) : Bool := goodTo L L.length && decide (L.length ≤ 8)
theorem goodTo_succ (L : List Lab) (k : Nat) : goodTo L (k + 1) = (goodTo L k && goodAt L k) := by
  unfold goodTo; rw [List.range_succ, List.all_append]; simp
theorem goodTo_false {L : List Lab} {k n : Nat} (h : goodAt L k = false) (hk : k < n) : goodTo L n = false := by
  unfold goodTo
  rw [List.all_eq_false]
  exact ⟨k, List.mem_range.2 hk, by rw [h]; exact Bool.false_ne_true⟩
/-- The first one of a name. -/
def getL (L : List Lab) (n : List UInt8) : Option Lab := L.find? fun x => nmL x == n
def getV (r : Option Lab) : ByteArray := match r with
  | some x => x.2
  | none => ⟨#[]⟩
/-- Those without some names. -/
def outL (L : List Lab) (names : List ByteArray) : List Lab := L.filter fun x => !(names.any fun n => n.data.toList == nmL x)
/-! ### which of two texts, labels, rows is less -/
theorem cmpB_tri : ∀ a b : List UInt8, (a < b → Lib.compareBytes a b = -1) ∧ (a = b → Lib.compareBytes a b = 0) ∧ (b < a → Lib.compareBytes a b = 1)
  | [], [] => ⟨fun h => absurd h (List.lt_irrefl _), fun _ => rfl, fun h => absurd h (List.lt_irrefl _)⟩
  | [], y :: b => ⟨fun _ => rfl, fun h => by (cases h), fun h => absurd h (by simp)⟩
  | x :: a, [] => ⟨fun h => absurd h (by simp), fun h => by (cases h), fun _ => rfl⟩
  | x :: a, y :: b => by
    have ih := cmpB_tri a b
    rw [Lib.compareBytes]
    refine ⟨fun h => ?_, fun h => ?_, fun h => ?_⟩
    · rcases (List.cons_lt_cons_iff).1 h with h | ⟨rfl, h2⟩
      · rw [if_pos h]
      · rw [if_neg (UInt8.lt_irrefl _), if_neg (UInt8.lt_irrefl _)]; exact ih.1 h2
    · injection h with h1 h2
      subst h1; subst h2
      rw [if_neg (UInt8.lt_irrefl _), if_neg (UInt8.lt_irrefl _)]; exact ih.2.1 rfl
    · rcases (List.cons_lt_cons_iff).1 h with h | ⟨rfl, h2⟩
      · rw [if_neg (fun k => absurd (UInt8.lt_trans h k) (UInt8.lt_irrefl _)), if_pos h]
      · rw [if_neg (UInt8.lt_irrefl _), if_neg (UInt8.lt_irrefl _)]; exact ih.2.2 h2
theorem bs3 (a b : List UInt8) : a < b ∨ a = b ∨ b < a := by
  by_cases h : a < b
  · exact .inl h
  · by_cases k : b < a
    · exact .inr (.inr k)
    · exact .inr (.inl (List.le_antisymm (List.not_lt.1 k) (List.not_lt.1 h)))
theorem cmpB_neg (a b : List UInt8) : Lib.compareBytes a b < 0 ↔ a < b := by
  have h := cmpB_tri a b
  rcases bs3 a b with k | k | k
  · simp [h.1 k, k]
  · rw [h.2.1 k]; subst k; simp [List.lt_irrefl]
  · rw [h.2.2 k]; simp; exact List.le_of_lt k
theorem cmpB_zero (a b : List UInt8) : Lib.compareBytes a b = 0 ↔ a = b := by
  have h := cmpB_tri a b
  rcases bs3 a b with k | k | k
  · rw [h.1 k]; simp; rintro rfl; exact List.lt_irrefl _ k
  · exact ⟨fun _ => k, fun _ => h.2.1 k⟩
  · rw [h.2.2 k]; simp; rintro rfl; exact List.lt_irrefl _ k
theorem cmpB_swap (a b : List UInt8) : Lib.compareBytes b a = - Lib.compareBytes a b := by
  have h := cmpB_tri a b
  have g := cmpB_tri b a
  rcases bs3 a b with k | k | k
  · rw [h.1 k, g.2.2 k]; rfl
  · rw [h.2.1 k, g.2.1 k.symm]; rfl
  · rw [h.2.2 k, g.1 k]
theorem cmpB_bd (a b : List UInt8) : -1 ≤ Lib.compareBytes a b ∧ Lib.compareBytes a b ≤ 1 := by
  have h := cmpB_tri a b
  rcases bs3 a b with k | k | k
  · rw [h.1 k]; omega
  · rw [h.2.1 k]; omega
  · rw [h.2.2 k]; omega
/-- Of two labels: by names, then by values. -/
def cmpLab (x y : Lab) : Int := if Lib.compareBytes (nmL x) (nmL y) ≠ 0 then Lib.compareBytes (nmL x) (nmL y) else Lib.compareBytes (vlL x) (vlL y)
theorem cmpLab_bd (x y : Lab) : -1 ≤ cmpLab x y ∧ cmpLab x y ≤ 1 := by
  unfold cmpLab; split
  · exact cmpB_bd _ _
  · exact cmpB_bd _ _
theorem cmpLab_swap (x y : Lab) : cmpLab y x = - cmpLab x y := by
  unfold cmpLab
  rw [cmpB_swap (nmL x) (nmL y), cmpB_swap (vlL x) (vlL y)]
  split <;> split <;> omega
theorem lab_ext {x y : Lab} (h : nmL x = nmL y) (k : vlL x = vlL y) : x = y := by
  obtain ⟨⟨⟨a⟩⟩, ⟨⟨b⟩⟩⟩ := x
  obtain ⟨⟨⟨c⟩⟩, ⟨⟨d⟩⟩⟩ := y
  simp only [nmL, vlL] at h k
  subst h; subst k; rfl
theorem cmpLab_zero (x y : Lab) : cmpLab x y = 0 ↔ x = y := by
  unfold cmpLab
  split
  · rename_i h
    exact ⟨fun k => absurd k h, fun k => absurd ((cmpB_zero _ _).2 (by rw [k])) h⟩
  · rename_i h
    have h := (cmpB_zero _ _).1 (Decidable.not_not.1 h)
    rw [cmpB_zero]
    exact ⟨fun k => lab_ext h k, fun k => by rw [k]⟩
/-- Of two rows: one by one, a row's beginning ahead. -/
def cmpRow : List Lab → List Lab → Int
  | [], [] => 0
  | [], _ :: _ => -1
  | _ :: _, [] => 1
  | x :: a, y :: b => if cmpLab x y ≠ 0 then cmpLab x y else cmpRow a b
theorem cmpRow_bd : ∀ a b : List Lab, -1 ≤ cmpRow a b ∧ cmpRow a b ≤ 1
  | [], [] => by simp [cmpRow]
  | [], _ :: _ => by simp [cmpRow]
  | _ :: _, [] => by simp [cmpRow]
  | x :: a, y :: b => by
    rw [cmpRow]
    have := cmpLab_bd x y
    have := cmpRow_bd a b
    split <;> omega
theorem cmpRow_swap : ∀ a b : List Lab, cmpRow b a = - cmpRow a b
  | [], [] => rfl
  | [], _ :: _ => rfl
  | _ :: _, [] => rfl
  | x :: a, y :: b => by
    rw [cmpRow, cmpRow, cmpLab_swap x y, cmpRow_swap a b]
    split <;> split <;> omega
theorem cmpRow_zero : ∀ a b : List Lab, cmpRow a b = 0 ↔ a = b
  | [], [] => by simp [cmpRow]
  | [], _ :: _ => by simp [cmpRow]
  | _ :: _, [] => by simp [cmpRow]
  | x :: a, y :: b => by
    rw [cmpRow]
    split
    · rename_i h
      exact ⟨fun k => absurd k h, fun k => by injection k with k _; exact absurd ((cmpLab_zero x y).2 k) h⟩
    · rename_i h
      have h := (cmpLab_zero x y).1 (Decidable.not_not.1 h)
      rw [cmpRow_zero a b, h]
      simp
theorem cmpLab_neg (x y : Lab) : cmpLab x y < 0 ↔ nmL x < nmL y ∨ nmL x = nmL y ∧ vlL x < vlL y := by
  unfold cmpLab
  split
  · rename_i h
    rw [cmpB_neg]
    exact ⟨.inl, fun k => k.elim id fun k => absurd ((cmpB_zero _ _).2 k.1) h⟩
  · rename_i h
    have h := (cmpB_zero _ _).1 (Decidable.not_not.1 h)
    rw [cmpB_neg, h]
    exact ⟨fun k => .inr ⟨rfl, k⟩, fun k => k.elim (fun k => absurd k (List.lt_irrefl _)) (·.2)⟩
theorem cmpLab_trans {x y z : Lab} (h : cmpLab x y < 0) (k : cmpLab y z < 0) : cmpLab x z < 0 := by
  rw [cmpLab_neg] at *
  rcases h with h | ⟨h, h'⟩ <;> rcases k with k | ⟨k, k'⟩
  · exact .inl (List.lt_trans h k)
  · exact .inl (k ▸ h)
  · exact .inl (h ▸ k)
  · exact .inr ⟨h.trans k, List.lt_trans h' k'⟩
theorem cmpRow_trans : ∀ a b c : List Lab, cmpRow a b ≤ 0 → cmpRow b c ≤ 0 → cmpRow a c ≤ 0
  | [], _, [], _, _ => by simp [cmpRow]
  | [], _, _ :: _, _, _ => by simp [cmpRow]
  | x :: a, [], c, h, _ => by simp [cmpRow] at h
  | x :: a, y :: b, [], _, k => by simp [cmpRow] at k
  | x :: a, y :: b, z :: c, h, k => by
    have b1 := cmpLab_bd x y
    have b2 := cmpLab_bd y z
    have ih := cmpRow_trans a b c
    rw [cmpRow] at h k ⊢
    by_cases e1 : cmpLab x y = 0
    · obtain rfl := (cmpLab_zero x y).1 e1
      by_cases e2 : cmpLab x z = 0
      · rw [if_neg (by simpa using e1)] at h
        rw [if_neg (by simpa using e2)] at k
        rw [if_neg (by simpa using e2)]
        exact ih h k
      · rw [if_pos e2] at k
        rw [if_pos e2]; exact k
    · rw [if_pos e1] at h
      by_cases e2 : cmpLab y z = 0
      · obtain rfl := (cmpLab_zero y z).1 e2
        rw [if_pos e1]; exact h
      · rw [if_pos e2] at k
        have h3 := cmpLab_trans (x := x) (y := y) (z := z) (by omega) (by omega)
        rw [if_pos (by omega)]; omega
/-- A row's beginning. -/
theorem cmpRow_take : ∀ (a : List Lab) (k : Nat), k ≤ a.length → cmpRow (a.take k) a ≤ 0 ∧ (cmpRow (a.take k) a = 0 ↔ k = a.length)
  | [], 0, _ => by simp [cmpRow]
  | x :: a, 0, _ => by simp [cmpRow]
  | x :: a, k + 1, h => by
    have ih := cmpRow_take a k (by simpa using h)
    rw [List.take_succ_cons, cmpRow, if_neg (by simpa using (cmpLab_zero x x).2 rfl)]
    simpa using ih
/-! ### sorting -/
/-- A row's labels, rising. -/
def SortedOf (L s : List Lab) : Prop := s.Perm L ∧ s.Pairwise fun x y => nmL x < nmL y
theorem sortedOf_unique {L s t : List Lab} (h : SortedOf L s) (k : SortedOf L t) : s = t :=
  (h.1.trans k.1.symm).eq_of_pairwise (fun a b _ _ h1 h2 => absurd (List.lt_trans h1 h2) (List.lt_irrefl _)) h.2 k.2
def distinct (L : List Lab) : Bool := decide (L.map nmL).Nodup
def sortL (L : List Lab) : Option (List Lab) := if distinct L = true then some (L.mergeSort fun x y => decide (nmL x ≤ nmL y)) else none
theorem pw_nodup {s : List Lab} (h : s.Pairwise fun x y => nmL x < nmL y) : (s.map nmL).Nodup := by
  unfold List.Nodup
  rw [List.pairwise_map]
  exact h.imp fun k e => by rw [e] at k; exact List.lt_irrefl _ k
theorem sortL_some {L s : List Lab} (h : SortedOf L s) : sortL L = some s := by
  have hd : distinct L = true := decide_eq_true (((h.1.map nmL).nodup_iff).1 (pw_nodup h.2))
  unfold sortL
  rw [if_pos hd]
  have hm := List.pairwise_mergeSort (le := fun a b : Lab => decide (nmL a ≤ nmL b)) (fun a b c h k => by
    simp only [decide_eq_true_eq] at h k ⊢; exact List.le_trans h k) (fun a b => by
    simp only [Bool.or_eq_true, decide_eq_true_eq]; exact List.le_total _ _) L
  have hp := List.mergeSort_perm L fun x y => decide (nmL x ≤ nmL y)
  have hn : ((L.mergeSort fun x y => decide (nmL x ≤ nmL y)).map nmL).Nodup := ((hp.map nmL).nodup_iff).2 (of_decide_eq_true hd)
  unfold List.Nodup at hn
  rw [List.pairwise_map] at hn
  have h3 : (L.mergeSort fun x y => decide (nmL x ≤ nmL y)).Pairwise fun x y => nmL x < nmL y := (hm.and hn).imp fun ⟨q, r⟩ => by
    rcases bs3 _ _ with k | k | k
    · exact k
    · exact absurd k r
    · exact absurd (of_decide_eq_true q) (List.not_le.2 k)
  rw [sortedOf_unique (⟨hp, h3⟩ : SortedOf L _) h]
theorem sortL_none {L : List Lab} (h : distinct L = false) : sortL L = none := by
  unfold sortL; rw [if_neg (by rw [h]; exact Bool.false_ne_true)]
theorem distinct_perm {L M : List Lab} (h : L.Perm M) : distinct L = distinct M := by
  unfold distinct
  exact decide_eq_decide.2 ((h.map nmL).nodup_iff)
theorem distinct_two {L : List Lab} {i j : Nat} (hi : i < j) (hj : j < L.length) (h : nmL (L.getD i default) = nmL (L.getD j default)) : distinct L = false := by
  unfold distinct
  refine decide_eq_false fun hn => ?_
  have := List.pairwise_iff_getElem.1 hn i j (by simp; omega) (by simp; omega) hi
  rw [List.getD_eq_getElem?_getD, List.getD_eq_getElem?_getD, List.getElem?_eq_getElem (by omega), List.getElem?_eq_getElem hj] at h
  simp only [List.getElem_map] at this
  exact this h
structure MEv where
  name : ByteArray
  labs : List Lab
  kind : Nat
  val : Int × Nat
  rate : Int × Nat
  mem_ : ByteArray
def plusT (l : List UInt8) : Bool := bt l 0 == 43
def afterP (l : List UInt8) : List UInt8 := if plusT l then l.drop 1 else l
/-- A row's value: what is wrong and where, or the kind, the number, the member. -/
def valueT (K : Nat) (tx : ByteArray) (pos : Nat) : Except (Nat × Nat) (Nat × (Int × Nat) × ByteArray) :=
  if K == 5 then (if decide (tx.size ≤ 60) then .ok (K, (0, 0), tx) else .error (14, pos))
  else if plusT tx.data.toList && (minusD (afterP tx.data.toList) || !(K == 2)) then .error (13, pos)
  else if (parseD (afterP tx.data.toList)).2.1 == 11 then .error (13, pos)
  else if !((parseD (afterP tx.data.toList)).2.1 == 0) || (decide ((parseD (afterP tx.data.toList)).1.1 < 0) && !(K == 2)) then .error (12, pos)
  else .ok (if K == 2 && (plusT tx.data.toList || minusD (afterP tx.data.toList)) then 3 else K, (parseD (afterP tx.data.toList)).1, mkS [])
/-- How many a row stands for. -/
def rateT (K : Nat) (td : Bool) (tm : ByteArray) (wh : Nat) (v : Int × Nat) : Except (Nat × Nat) (Int × Nat) :=
  if !td then .ok (if K == 1 || K == 4 then (1, 0) else (0, 0))
  else if !(K == 1 || K == 4) then .error (13, wh)
  else if !((parseD tm.data.toList).2.1 == 0) || (decide ((parseD tm.data.toList).1.1 ≤ 0) || (decide (0 < cmpD (parseD tm.data.toList).1.1 (parseD tm.data.toList).1.2 1 0) || (!(overN v.1 v.2 (parseD tm.data.toList).1.1 (parseD tm.data.toList).1.2).2 || (!(overN 1 0 (parseD tm.data.toList).1.1 (parseD tm.data.toList).1.2).2 && K == 4)))) then .error (12, wh)
  else .ok (parseD tm.data.toList).1
/-- A row's tags as labels. -/
def evTagsS : List MTag → List Lab → Except (Nat × Nat) (List Lab)
  | [], acc => .ok acc
  | t :: ts, acc =>
    if 60 < t.name.size then .error (14, t.off)
    else if 60 < t.value.size then .error (14, t.pos)
    else if (getL acc t.name.data.toList).isSome then .error (13, t.off)
    else if 8 ≤ acc.length then .error (14, t.off)
    else evTagsS ts (acc ++ [(t.name, t.value)])
def evLineS (x : MRow) (n : Nat) : Except (Nat × Nat) MEv :=
  if 60 < x.name.size ∨ 120 ≤ n then .error (14, x.off)
  else match valueT x.kind x.text x.pos with
    | .error e => .error e
    | .ok (k, v, m) => match rateT x.kind x.timed x.time x.when_ v with
      | .error e => .error e
      | .ok r => match evTagsS x.tags [] with
        | .error e => .error e
        | .ok L => .ok ⟨x.name, (sortL L).getD [], k, v, r, m⟩
def evGo : List MRow → List MEv → Except (Nat × Nat) (List MEv)
  | [], acc => .ok acc
  | x :: xs, acc => match evLineS x acc.length with
    | .error e => .error e
    | .ok e => evGo xs (acc ++ [e])
/-- What a text says: its events, or what is wrong and where. -/
def readS (s : ByteArray) : Except (Nat × Int) (List MEv) :=
  if 4000 < s.size then .error (14, 0)
  else if (statRows s.data.toList).2.2 then .error (11, statBad s.data.toList)
  else match evGo (statRows s.data.toList).1 [] with
    | .error e => .error (e.1, (e.2 : Int))
    | .ok l => .ok l
theorem cutL_le (l : List UInt8) (a b : Nat) : (cutL l a b).length ≤ l.length := by
  unfold cutL; rw [List.length_take, List.length_drop]; omega
theorem sTagsGo_len (l : List UInt8) : ∀ f a no acc, (sTagsGo l f a no acc).1.length ≤ acc.length + f
  | 0, a, no, acc => by simp [sTagsGo]
  | f + 1, a, no, acc => by
    unfold sTagsGo
    split
    · have := sTagsGo_len l f ((sTagS l a no).2.1 + 1) false (acc ++ [(sTagS l a no).1])
      simp at this ⊢; omega
    · simp
/-- What every row of a text keeps to. -/
def RowOk (l : List UInt8) (x : MRow) : Prop := x.tags.length ≤ l.length + 1 ∧ x.text.size ≤ l.length ∧ x.time.size ≤ l.length
theorem statLine_ok (l : List UInt8) (a : Nat) : RowOk l (statLineS l a).1 := by
  have h : ∀ b, (sMoreS l b).1.length ≤ l.length + 1 := fun b => by
    have := sTagsGo_len l (l.length + 1) (wordS l [35] b false).1 (wordS l [35] b false).2 []
    simpa [sMoreS] using this
  have hc : ∀ a b, (mkS (cutL l a b)).size ≤ l.length := fun a b => cutL_le l a b
  have h0 : (mkS []).size ≤ l.length := Nat.zero_le _
  unfold statLineS
  simp only
  split
  · split
    · split
      · exact ⟨h _, hc _ _, hc _ _⟩
      · exact ⟨Nat.zero_le _, hc _ _, hc _ _⟩
    · exact ⟨h _, hc _ _, h0⟩
  · exact ⟨Nat.zero_le _, hc _ _, h0⟩
theorem rowsGo_all {P : MRow → Prop} (lf : List UInt8 → Nat → MRow × Nat × Bool) (l : List UInt8) (hP : ∀ a, P (lf l a).1) : ∀ f a acc, (∀ x ∈ acc, P x) → ∀ x ∈ (rowsGo lf l f a acc).1, P x
  | 0, a, acc, h => by simpa [rowsGo] using h
  | f + 1, a, acc, h => by
    have hn : ∀ x ∈ acc ++ [(lf l a).1], P x := fun x hx => by
      rcases List.mem_append.1 hx with hx | hx
      · exact h x hx
      · rw [List.mem_singleton.1 hx]; exact hP a
    unfold rowsGo
    split
    · exact h
    · split
      · first | exact hn | exact h
      · exact rowsGo_all lf l hP f _ _ hn
theorem rowsGo_len (lf : List UInt8 → Nat → MRow × Nat × Bool) (l : List UInt8) : ∀ f a acc, (rowsGo lf l f a acc).1.length ≤ acc.length + f
  | 0, a, acc => by simp [rowsGo]
  | f + 1, a, acc => by
    unfold rowsGo
    split
    · simp
    · split
      · simp
      · have := rowsGo_len lf l f (lf l a).2.1 (acc ++ [(lf l a).1])
        simp at this ⊢; omega
theorem statRows_ok (l : List UInt8) : (∀ x ∈ (statRows l).1, RowOk l x) ∧ (statRows l).1.length ≤ l.length + 1 := by
  unfold statRows
  refine ⟨rowsGo_all statLineS l (statLine_ok l) _ _ _ (by simp), ?_⟩
  have := rowsGo_len statLineS l (l.length + 1) 0 []
  simpa using this
end Go.Proofs.YtpknjngjkdnpiaaGreatDoor
