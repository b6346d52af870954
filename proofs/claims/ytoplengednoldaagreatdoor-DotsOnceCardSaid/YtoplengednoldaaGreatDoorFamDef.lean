/- Points and families: as data and as cells; which point is ahead (no program in sight). -/
import Derived.Test.YtoplengednoldaaGreatDoorLabDef
import Derived.Test.YtoplengednoldaaGreatDoorMgSum8
namespace Go.Proofs.YtoplengednoldaaGreatDoor
set_option linter.unusedVariables false
set_option linter.unusedSimpArgs false
open Go.RowKit
structure MPnt where
  labels : List Lab
  role : Nat
  inf : Bool
  bM : Int
  bS : Nat
  vM : Int
  vS : Nat
  timed : Bool
  time : Int
deriving Inhabited
structure MFam where
  name : ByteArray
  kind : Nat
  unit : ByteArray
  help : ByteArray
  pts : List MPnt
deriving Inhabited
/-- The first of some numbers that is not 0. -/
def orL : List Int → Int
  | [] => 0
  | x :: xs => if x ≠ 0 then x else orL xs
def bB (a b : Bool) : Int := if a = b then 0 else if b then -1 else 1
def nB (a b : Int) : Int := if a < b then -1 else if b < a then 1 else 0
/-- Of two points: which is ahead; 0: they are of the same. -/
def cmpPnt (p q : MPnt) : Int := orL [cmpRow p.labels q.labels, bB p.timed q.timed, nB p.time q.time, nB p.role q.role, bB p.inf q.inf, cmpD p.bM p.bS q.bM q.bS]
def samePnt (p q : MPnt) : Bool := decide (cmpPnt p q = 0)
/-- A point and where its labels lie; a family and where its points lie. -/
structure VPnt where
  pt : MPnt
  A : Option Addr
  c : Nat
deriving Inhabited
structure VFam where
  name : ByteArray
  kind : Nat
  unit : ByteArray
  help : ByteArray
  pts : List VPnt
  A : Option Addr
  c : Nat
deriving Inhabited
def VFam.fam (x : VFam) : MFam := ⟨x.name, x.kind, x.unit, x.help, x.pts.map VPnt.pt⟩
def pntCell (x : VPnt) : List Value := [.slice x.A x.pt.labels.length x.c, .int .i64 (x.pt.role : Int), .bool x.pt.inf, .int .i64 x.pt.bM, .int .i64 (x.pt.bS : Int), .int .i64 x.pt.vM, .int .i64 (x.pt.vS : Int), .bool x.pt.timed, .int .i64 x.pt.time]
def famCell (x : VFam) : List Value := [.string x.name, .int .i64 (x.kind : Int), .string x.unit, .string x.help, .slice x.A x.pts.length x.c]
theorem pntCell_len (x : VPnt) : (pntCell x).length = 9 := rfl
theorem famCell_len (x : VFam) : (famCell x).length = 5 := rfl
/-- Where a family stands; one more if it isn't there. -/
def famIx (fs : List MFam) (n : ByteArray) : Nat := fs.findIdx fun f => f.name.data.toList == n.data.toList
def famsOf (fs : List MFam) (n : ByteArray) : List MFam := if famIx fs n < fs.length then fs else fs ++ [⟨n, 0, mkB, mkB, []⟩] where mkB := ⟨#[]⟩
def famAt (fs : List MFam) (n : ByteArray) : MFam := (famsOf fs n).getD (famIx fs n) default
/-- A point put to the family of a name; else what is wrong. -/
def putD (fs : List MFam) (points : Nat) (n : ByteArray) (p : MPnt) (at_ : Nat) : Except (Nat × Nat) (List MFam) :=
  if 30 < (famsOf fs n).length then .error (14, at_)
  else if (famAt fs n).pts.any (samePnt p) then .error (13, at_)
  else if 120 ≤ points then .error (14, at_)
  else .ok ((famsOf fs n).set (famIx fs n) { famAt fs n with pts := (famAt fs n).pts ++ [p] })
end Go.Proofs.YtoplengednoldaaGreatDoor
