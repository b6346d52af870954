/- The open format: a text's rows, and where it can't go on, as plain functions (no program in sight). -/
import Derived.Test.YtdngieihlcknmaaDoorRowDef
import Derived.Test.YtdngieihlcknmaaDoorClsDef
namespace Go.Proofs.YtdngieihlcknmaaDoor
set_option linter.unusedVariables false
set_option linter.unusedSimpArgs false
open Go.RowKit
def wEq : List UInt8 := [61, 34]
def inV : List UInt8 := [92, 34, 110]
def inH : List UInt8 := [92, 110]
def wHash : List UInt8 := [35, 32]
def wEOF : List UInt8 := [69, 79, 70]
def wType : List UInt8 := [84, 89, 80, 69, 32]
def wUnit : List UInt8 := [85, 78, 73, 84, 32]
def wHelp : List UInt8 := [72, 69, 76, 80, 32]
/-- Bytes of a class, the first one no digit. -/
def nmS (l : List UInt8) (p : Int → Bool) (a : Nat) (no : Bool) : Nat × Bool := someS l p a (no || (pkB l a no && digB (bt l a)))
/-- A label: its name, =", its value, ". -/
def otagS (l : List UInt8) (a : Nat) (no : Bool) : MTag × Nat × Bool :=
  let k := nmS l owLabel a no
  let e := wordS l wEq k.1 k.2
  let v := ink l 34 inV 110 e.1 e.2
  let q := wordS l [34] v.2.1 v.2.2
  (⟨mkS (cutL l a k.1), mkS (inkV l 34 inV 110 e.1 e.2), a, e.1⟩, q)
def otagsGo (l : List UInt8) : Nat → Nat → Bool → List MTag → List MTag × Nat × Bool
  | 0, a, _, acc => (acc, a, true)
  | f + 1, a, no, acc => if no then (acc, a, true) else if isB l (otagS l a false).2.1 (otagS l a false).2.2 44 then otagsGo l f ((otagS l a false).2.1 + 1) false (acc ++ [(otagS l a false).1]) else (acc ++ [(otagS l a false).1], (otagS l a false).2)
def otagsS (l : List UInt8) (a : Nat) (no : Bool) : List MTag × Nat × Bool :=
  if isB l a no 123 then
    if isB l (a + 1) false 125 then ([], a + 2, false)
    else
      let t := otagsGo l (l.length + 1) (a + 1) false []
      (t.1, wordS l [125] t.2.1 t.2.2)
  else ([], a, no)
def sampS (l : List UInt8) (a : Nat) (no : Bool) : MRow × Nat × Bool :=
  let n := nmS l owName a no
  let t := otagsS l n.1 n.2
  let w := wordS l [32] t.2.1 t.2.2
  let d := decS l w.1 w.2
  if isB l d.1 d.2 32 then
    (⟨0, mkS (cutL l a n.1), a, t.1, [], mkS (cutL l w.1 d.1), w.1, true, mkS (cutL l (d.1 + 1) (decS l (d.1 + 1) false).1), d.1 + 1⟩, wordS l [10] (decS l (d.1 + 1) false).1 (decS l (d.1 + 1) false).2)
  else (⟨0, mkS (cutL l a n.1), a, t.1, [], mkS (cutL l w.1 d.1), w.1, false, mkS [], 0⟩, wordS l [10] d.1 d.2)
/-- What is told of a family, by its kind: the text's end. -/
def otextS (l : List UInt8) (kind a : Nat) (no : Bool) : List UInt8 × Nat × Bool :=
  if kind = 1 then (cutL l a (someS l smB a no).1, someS l smB a no)
  else if kind = 2 then (cutL l a (someS l owName a no).1, someS l owName a no)
  else (inkV l 10 inH 110 a no, (ink l 10 inH 110 a no).2)
def otoldS (l : List UInt8) (kind : Nat) (word : List UInt8) (a : Nat) (no : Bool) : MRow × Nat × Bool :=
  let w := wordS l word a no
  let n := nmS l owName w.1 w.2
  let b := wordS l [32] n.1 n.2
  let t := otextS l kind b.1 b.2
  (⟨kind, mkS (cutL l w.1 n.1), w.1, [], [], mkS t.1, b.1, false, mkS [], 0⟩, wordS l [10] t.2.1 t.2.2)
/-- A line: its row, if it has one; is it the last? -/
def olineS (l : List UInt8) (a : Nat) : (Option MRow × Bool) × Nat × Bool :=
  if isB l a false 35 then
    let w := wordS l wHash a false
    if isB l w.1 w.2 84 then ((some (otoldS l 1 wType w.1 w.2).1, false), (otoldS l 1 wType w.1 w.2).2)
    else if isB l w.1 w.2 85 then ((some (otoldS l 2 wUnit w.1 w.2).1, false), (otoldS l 2 wUnit w.1 w.2).2)
    else if isB l w.1 w.2 72 then ((some (otoldS l 3 wHelp w.1 w.2).1, false), (otoldS l 3 wHelp w.1 w.2).2)
    else ((none, true), wordS l wEOF w.1 w.2)
  else ((some (sampS l a false).1, false), (sampS l a false).2)
def orowsGo (l : List UInt8) : Nat → Nat → List MRow → List MRow × Nat × Bool
  | 0, a, acc => (acc, a, true)
  | f + 1, a, acc =>
    if (olineS l a).1.2 then (acc ++ (olineS l a).1.1.toList, (olineS l a).2)
    else if (olineS l a).2.2 then (acc ++ (olineS l a).1.1.toList, (olineS l a).2.1, true)
    else orowsGo l f (olineS l a).2.1 (acc ++ (olineS l a).1.1.toList)
/-- What stands behind the last line: a line feed, or nothing. -/
def oendS (l : List UInt8) (a : Nat) (no : Bool) : Nat × Bool :=
  let w := if !no && !(a == l.length) then wordS l [10] a no else (a, no)
  (w.1, if w.1 == l.length then w.2 else true)
def openRows (l : List UInt8) : List MRow × Nat × Bool :=
  ((orowsGo l (l.length + 2) 0 []).1, oendS l (orowsGo l (l.length + 2) 0 []).2.1 (orowsGo l (l.length + 2) 0 []).2.2)
def openBad (l : List UInt8) : Int := if (openRows l).2.2 then ((openRows l).2.1 : Int) else -1
section
variable {l : List UInt8}
theorem nmS_le (p : Int → Bool) {a : Nat} (no : Bool) (h : a ≤ l.length) : a ≤ (nmS l p a no).1 ∧ (nmS l p a no).1 ≤ l.length := someS_le l p a _ h
theorem otagS_le {a : Nat} (no : Bool) (h : a ≤ l.length) : a ≤ (otagS l a no).2.1 ∧ (otagS l a no).2.1 ≤ l.length := by
  unfold otagS
  have h1 := nmS_le (l := l) owLabel no h
  have h2 := wordS_le l wEq (nmS l owLabel a no).1 (nmS l owLabel a no).2 h1.2
  have h3 := ink_le l 34 inV 110 _ (wordS l wEq (nmS l owLabel a no).1 (nmS l owLabel a no).2).2 h2.2
  have h4 := wordS_le l [34] _ (ink l 34 inV 110 (wordS l wEq (nmS l owLabel a no).1 (nmS l owLabel a no).2).1 (wordS l wEq (nmS l owLabel a no).1 (nmS l owLabel a no).2).2).2.2 h3.2.1
  simp only
  omega
theorem otagsGo_le : ∀ f a no acc, a ≤ l.length → a ≤ (otagsGo l f a no acc).2.1 ∧ (otagsGo l f a no acc).2.1 ≤ l.length
  | 0, a, no, acc, h => ⟨Nat.le_refl _, h⟩
  | f + 1, a, no, acc, h => by
    unfold otagsGo
    split
    · exact ⟨Nat.le_refl _, h⟩
    · have h1 := otagS_le (l := l) false h
      split
      · rename_i hi
        have := (isB_lt hi).1
        have ih := otagsGo_le f ((otagS l a false).2.1 + 1) false (acc ++ [(otagS l a false).1]) (by omega)
        omega
      · exact h1
theorem otagsS_le {a : Nat} (no : Bool) (h : a ≤ l.length) : a ≤ (otagsS l a no).2.1 ∧ (otagsS l a no).2.1 ≤ l.length := by
  unfold otagsS
  split
  · rename_i hi
    have := (isB_lt hi).1
    split
    · rename_i hj
      have := (isB_lt hj).1
      exact ⟨by simp, by simp; omega⟩
    · have h1 := otagsGo_le (l := l) (l.length + 1) (a + 1) false [] (by omega)
      have h2 := wordS_le l [125] _ (otagsGo l (l.length + 1) (a + 1) false []).2.2 h1.2
      simp only
      omega
  · exact ⟨Nat.le_refl _, h⟩
theorem sampS_le {a : Nat} (no : Bool) (h : a ≤ l.length) : a ≤ (sampS l a no).2.1 ∧ (sampS l a no).2.1 ≤ l.length := by
  unfold sampS
  simp only
  have h1 := nmS_le (l := l) owName no h
  generalize nmS l owName a no = n at h1 ⊢
  have h2 := otagsS_le (l := l) n.2 h1.2
  generalize otagsS l n.1 n.2 = t at h2 ⊢
  have h3 := wordS_le l [32] t.2.1 t.2.2 h2.2
  generalize wordS l [32] t.2.1 t.2.2 = w at h3 ⊢
  have h4 := decS_le l w.1 w.2 h3.2
  generalize decS l w.1 w.2 = d at h4 ⊢
  split
  · rename_i hi
    have := (isB_lt hi).1
    have h5 := decS_le l (d.1 + 1) false (by omega)
    have h6 := wordS_le l [10] _ (decS l (d.1 + 1) false).2 h5.2
    simp only
    omega
  · have h6 := wordS_le l [10] d.1 d.2 h4.2
    simp only
    omega
theorem otextS_le {kind a : Nat} (no : Bool) (h : a ≤ l.length) : a ≤ (otextS l kind a no).2.1 ∧ (otextS l kind a no).2.1 ≤ l.length := by
  unfold otextS
  split
  · exact someS_le l smB a no h
  split
  · exact someS_le l owName a no h
  · have := ink_le l 10 inH 110 a no h
    exact ⟨this.1, this.2.1⟩
theorem otoldS_le {kind : Nat} {word : List UInt8} {a : Nat} (no : Bool) (h : a ≤ l.length) : a ≤ (otoldS l kind word a no).2.1 ∧ (otoldS l kind word a no).2.1 ≤ l.length := by
  unfold otoldS
  simp only
  have h1 := wordS_le l word a no h
  generalize wordS l word a no = w at h1 ⊢
  have h2 := nmS_le (l := l) owName w.2 h1.2
  generalize nmS l owName w.1 w.2 = n at h2 ⊢
  have h3 := wordS_le l [32] n.1 n.2 h2.2
  generalize wordS l [32] n.1 n.2 = b at h3 ⊢
  have h4 := otextS_le (l := l) (kind := kind) b.2 h3.2
  generalize otextS l kind b.1 b.2 = t at h4 ⊢
  have h5 := wordS_le l [10] t.2.1 t.2.2 h4.2
  omega
theorem olineS_le {a : Nat} (h : a ≤ l.length) : a ≤ (olineS l a).2.1 ∧ (olineS l a).2.1 ≤ l.length := by
  unfold olineS
  split
  · have h1 := wordS_le l wHash a false h
    simp only
    generalize wordS l wHash a false = w at h1 ⊢
    have h2 := otoldS_le (l := l) (kind := 1) (word := wType) w.2 h1.2
    have h3 := otoldS_le (l := l) (kind := 2) (word := wUnit) w.2 h1.2
    have h4 := otoldS_le (l := l) (kind := 3) (word := wHelp) w.2 h1.2
    have h5 := wordS_le l wEOF w.1 w.2 h1.2
    split
    · simp only; omega
    split
    · simp only; omega
    split
    · simp only; omega
    · simp only; omega
  · exact sampS_le false h
theorem orowsGo_le : ∀ f a acc, a ≤ l.length → a ≤ (orowsGo l f a acc).2.1 ∧ (orowsGo l f a acc).2.1 ≤ l.length
  | 0, a, acc, h => ⟨Nat.le_refl _, h⟩
  | f + 1, a, acc, h => by
    have h1 := olineS_le (l := l) h
    unfold orowsGo
    split
    · exact h1
    split
    · exact h1
    · have ih := orowsGo_le f (olineS l a).2.1 (acc ++ (olineS l a).1.1.toList) h1.2
      omega
end
end Go.Proofs.YtdngieihlcknmaaDoor
