/- The dotted format, read: what a text's rows make, as plain functions (no program in sight). -/
import Derived.Test.YtoplengednoldaaGreatDoorMgPl8
import Derived.Test.YtoplengednoldaaGreatDoorDecDef
import Derived.Test.YtoplengednoldaaGreatDoorMgTp8
import Derived.Test.YtoplengednoldaaGreatDoorFamDef
namespace Go.Proofs.YtoplengednoldaaGreatDoor
set_option linter.unusedVariables false
set_option linter.unusedSimpArgs false
open Go.RowKit
/-- A whole number: what it is, what is wrong (0: nothing). -/
def intD (l : List UInt8) : Int × Nat :=
  if whA l digB (startD l) == startD l || decide (whA l digB (startD l) < l.length) then (0, 11)
  else match numD 0 (cutL l (startD l) (whA l digB (startD l))) with
    | none => (0, 12)
    | some m => (if minusD l then -(m : Int) else (m : Int), 0)
/-- Seconds as a time. -/
def msD (n : Int) : Option Int := if 1125899906842 < n ∨ n < -1125899906842 then none else some (n * 1000)
/-- A line's labels, beside those of its path. -/
def labGo : List MTag → List Lab → Except (Nat × Nat) (List Lab)
  | [], l => .ok l
  | t :: ts, l =>
    if 60 < t.name.size then .error (14, t.off)
    else if 60 < t.value.size then .error (14, t.pos)
    else if (getL l t.name.data.toList).isSome then .error (13, t.off)
    else if 8 ≤ l.length then .error (14, t.off)
    else labGo ts (l ++ [(t.name, t.value)])
/-- A point of the dotted format. -/
def pntD (l : List Lab) (m : Int) (s : Nat) (t : Int) : MPnt := ⟨l, 0, false, 0, 0, m, s, true, t⟩
def longL (x : Lab) : Bool := decide (60 < x.2.size)
def rowD (rules : List MRule) (fs : List MFam) (points : Nat) (x : MRow) : Except (Nat × Nat) (List MFam) :=
  if decide (60 < (applyT rules x.name).1.size) || (applyT rules x.name).2.any longL then .error (14, x.off)
  else match labGo x.tags (applyT rules x.name).2 with
    | .error e => .error e
    | .ok l =>
      if (parseD x.text.data.toList).2.1 ≠ 0 then .error (12, x.pos)
      else if (intD x.time.data.toList).2 ≠ 0 then .error (12, x.when_)
      else match msD (intD x.time.data.toList).1 with
        | none => .error (12, x.when_)
        | some ms => putD fs points (applyT rules x.name).1 (pntD ((sortL l).getD []) (parseD x.text.data.toList).1.1 (parseD x.text.data.toList).1.2 ms) x.off
def rowsD (rules : List MRule) : List MRow → List MFam → Nat → Except (Nat × Nat) (List MFam)
  | [], fs, _ => .ok fs
  | x :: xs, fs, points => match rowD rules fs points x with
    | .error e => .error e
    | .ok gs => rowsD rules xs gs (points + 1)
/-- What is read, in the order in which it came; else what is wrong, and where. -/
def readD (l : List UInt8) (rules : List MRule) : Except (Nat × Nat) (List MFam) :=
  if 4000 < l.length then .error (14, 0)
  else if (dotRows l).2.2 then .error (11, (dotRows l).2.1)
  else rowsD rules (dotRows l).1 [] 0
end Go.Proofs.YtoplengednoldaaGreatDoor
