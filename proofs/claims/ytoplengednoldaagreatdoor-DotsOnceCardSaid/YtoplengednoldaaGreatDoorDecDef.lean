/- Decimals: what a text says, as plain functions (no program in sight). -/
import Derived.Test.YtoplengednoldaaGreatDoorScanDef
namespace Go.Proofs.YtoplengednoldaaGreatDoor
set_option linter.unusedVariables false
set_option linter.unusedSimpArgs false
open Go.RowKit
/-- Is there a minus ahead? -/
def minusD (l : List UInt8) : Bool := bt l 0 == 45
def startD (l : List UInt8) : Nat := if minusD l then 1 else 0
/-- The digits ahead of a point, and behind it; else how far the text can go. -/
def cutD (l : List UInt8) : Option (List UInt8 × List UInt8) × Nat :=
  if whA l digB (startD l) == startD l || (decide (whA l digB (startD l) < l.length) && !(bt l (whA l digB (startD l)) == 46)) then (none, whA l digB (startD l))
  else if whA l digB (startD l) == l.length then (some (cutL l (startD l) (whA l digB (startD l)), []), whA l digB (startD l))
  else if whA l digB (whA l digB (startD l) + 1) == whA l digB (startD l) + 1 || decide (whA l digB (whA l digB (startD l) + 1) < l.length) then (none, whA l digB (whA l digB (startD l) + 1))
  else (some (cutL l (startD l) (whA l digB (startD l)), cutL l (whA l digB (startD l) + 1) (whA l digB (whA l digB (startD l) + 1))), whA l digB (whA l digB (startD l) + 1))
/-- The number that digits are; none: it is too great. -/
def numD : Nat → List UInt8 → Option Nat
  | n, [] => some n
  | n, c :: cs => if (9223372036854775807 - (c.toNat - 48)) / 10 < n then none else numD (n * 10 + (c.toNat - 48)) cs
def trimL0 (l : List UInt8) : List UInt8 := l.dropWhile (· == 48)
def trimR0 (l : List UInt8) : List UInt8 := (l.reverse.dropWhile (· == 48)).reverse
/-- A decimal (its number, how many digits behind the point), what is wrong (0: nothing), how far the text can go. -/
def parseD (l : List UInt8) : (Int × Nat) × Nat × Nat :=
  match cutD l with
  | (none, a) => ((0, 0), 11, a)
  | (some (w, p), _) =>
    match numD 0 (trimL0 w ++ trimR0 p) with
    | none => ((0, 0), 12, 0)
    | some m => if 18 < (trimR0 p).length then ((0, 0), 12, 0) else ((if minusD l then -(m : Int) else (m : Int), (trimR0 p).length), 0, 0)
theorem trimR0_len (l : List UInt8) : (trimR0 l).length ≤ l.length := by
  unfold trimR0
  rw [List.length_reverse]
  have := (List.dropWhile_sublist (l := l.reverse) (· == 48)).length_le
  simpa using this
theorem trimL0_len (l : List UInt8) : (trimL0 l).length ≤ l.length := (List.dropWhile_sublist (l := l) (· == 48)).length_le
theorem numD_le : ∀ (l : List UInt8) (n m : Nat), n ≤ 9223372036854775807 → (∀ c ∈ l, c.toNat ≤ 57) → numD n l = some m → m ≤ 9223372036854775807
  | [], n, m, h, _, e => by simp [numD] at e; omega
  | c :: cs, n, m, h, hc, e => by
    unfold numD at e
    split at e
    · cases e
    · have h1 := hc c List.mem_cons_self
      exact numD_le cs _ m (by omega) (fun d hd => hc d (List.mem_cons_of_mem _ hd)) e
end Go.Proofs.YtoplengednoldaaGreatDoor
