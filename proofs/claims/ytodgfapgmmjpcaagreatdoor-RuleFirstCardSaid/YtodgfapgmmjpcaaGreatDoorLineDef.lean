/- The line format: a text's rows, and where it can't go on, as plain functions (no program in sight). -/
import Derived.Test.YtodgfapgmmjpcaaGreatDoorRowDef
namespace Go.Proofs.YtodgfapgmmjpcaaGreatDoor
set_option linter.unusedVariables false
set_option linter.unusedSimpArgs false
open Go.RowKit
def inM : List UInt8 := [44, 32]
def inK : List UInt8 := [44, 32, 61]
def inT : List UInt8 := [34, 92]
def wTrue : List UInt8 := [116, 114, 117, 101]
def wFalse : List UInt8 := [102, 97, 108, 115, 101]
/-- A tag: its name, =, its value. -/
def tagS (l : List UInt8) (a : Nat) (no : Bool) : MTag × Nat × Bool :=
  let k := sgn l inK false a no
  let e := wordS l [61] k.2.1 k.2.2
  let v := sgn l inK true e.1 e.2
  (⟨mkS k.1, mkS v.1, a, e.1⟩, v.2)
def tagsS (l : List UInt8) : Nat → Nat → Bool → List MTag → List MTag × Nat × Bool
  | 0, a, _, acc => (acc, a, true)
  | f + 1, a, no, acc => if isB l a no 44 then tagsS l f (tagS l (a + 1) false).2.1 (tagS l (a + 1) false).2.2 (acc ++ [(tagS l (a + 1) false).1]) else (acc, a, no)
/-- What a field is: its kind, its value, where that begins. -/
def numberS (l : List UInt8) (a : Nat) (no : Bool) : (Nat × List UInt8 × Nat) × Nat × Bool :=
  let m := numS l a no
  if isB l m.1 m.2 105 then ((1, cutL l a m.1, a), m.1 + 1, false)
  else if !isB l a no 45 && isB l m.1 m.2 117 then ((2, cutL l a m.1, a), m.1 + 1, false)
  else if isB l m.1 m.2 46 then ((0, cutL l a m.1 ++ 46 :: cutL l (m.1 + 1) (someS l digB (m.1 + 1) false).1, a), someS l digB (m.1 + 1) false)
  else ((0, cutL l a m.1, a), m)
def toldS (l : List UInt8) (a : Nat) (no : Bool) : (Nat × List UInt8 × Nat) × Nat × Bool :=
  if isB l a no 116 then ((3, wTrue, a), wordS l wTrue a no)
  else if isB l a no 102 then ((3, wFalse, a), wordS l wFalse a no)
  else if isB l a no 34 then ((4, inkV l 34 inT 110 (a + 1) false, a + 1), wordS l [34] (ink l 34 inT 110 (a + 1) false).2.1 (ink l 34 inT 110 (a + 1) false).2.2)
  else numberS l a no
/-- .. -/
def fieldS (l : List UInt8) (a : Nat) (no : Bool) : MField × Nat × Bool :=
  let k := sgn l inK false a no
  let e := wordS l [61] k.2.1 k.2.2
  let t := toldS l e.1 e.2
  (⟨mkS k.1, mkS t.1.2.1, a, t.1.2.2, t.1.1⟩, t.2)
def fieldsS (l : List UInt8) : Nat → Nat → Bool → List MField → List MField × Nat × Bool
  | 0, a, _, acc => (acc, a, true)
  | f + 1, a, no, acc => if isB l (fieldS l a no).2.1 (fieldS l a no).2.2 44 then fieldsS l f ((fieldS l a no).2.1 + 1) false (acc ++ [(fieldS l a no).1]) else (acc ++ [(fieldS l a no).1], (fieldS l a no).2)
def lineS (l : List UInt8) (a : Nat) : MRow × Nat × Bool :=
  let n := sgn l inM false a (isB l a false 35)
  let t := tagsS l (l.length + 1) n.2.1 n.2.2 []
  let w := wordS l [32] t.2.1 t.2.2
  let f := fieldsS l (l.length + 1) w.1 w.2 []
  if isB l f.2.1 f.2.2 32 then
    (⟨0, mkS n.1, a, t.1, f.1, mkS [], 0, true, mkS (cutL l (f.2.1 + 1) (numS l (f.2.1 + 1) false).1), f.2.1 + 1⟩, wordS l [10] (numS l (f.2.1 + 1) false).1 (numS l (f.2.1 + 1) false).2)
  else (⟨0, mkS n.1, a, t.1, f.1, mkS [], 0, false, mkS [], 0⟩, wordS l [10] f.2.1 f.2.2)
def rowsGo (lineS : List UInt8 → Nat → MRow × Nat × Bool) (l : List UInt8) : Nat → Nat → List MRow → List MRow × Nat × Bool
  | 0, a, acc => (acc, a, true)
  | f + 1, a, acc => if l.length ≤ a then (acc, a, false) else if (lineS l a).2.2 then (acc, (lineS l a).2.1, true) else rowsGo lineS l f (lineS l a).2.1 (acc ++ [(lineS l a).1])
def lineRows (l : List UInt8) : List MRow × Nat × Bool := rowsGo lineS l (l.length + 1) 0 []
def lineBad (l : List UInt8) : Int := if (lineRows l).2.2 then ((lineRows l).2.1 : Int) else -1
end Go.Proofs.YtodgfapgmmjpcaaGreatDoor
