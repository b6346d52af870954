/- Templates: what package template answers, as plain functions (no program in sight). -/
import Derived.Test.YtjffagffjcbolaaLabDef
import Derived.Test.YtjffagffjcbolaaScanDef
import Derived.Test.YtjffagffjcbolaaClsDef
import Derived.Lib.Join
namespace Go.Proofs.Ytjffagffjcbolaa
set_option linter.unusedVariables false
set_option linter.unusedSimpArgs false
open Go.RowKit
structure MRule where
  filter : List ByteArray
  parts : List ByteArray
  extra : List Lab
def isE (p : ByteArray) : Bool := p.data.toList == [42]
def isM (p : ByteArray) : Bool := p.data.toList == [109, 101, 116, 114, 105, 99]
def isT (p : ByteArray) : Bool := p.data.toList == [109, 101, 116, 114, 105, 99, 42]
def isK (p : ByteArray) : Bool := p.data.toList == [95]
/-- Is a part a label's name? -/
def isLb (p : ByteArray) : Bool := !isM p && (!isT p && !isK p)
def lbsT (ps : List ByteArray) : List ByteArray := ps.filter isLb
/-- Some bytes, all of a class. -/
def inksB (q : Int → Bool) (l : List UInt8) : Bool := (l.all fun c => q c.toNat) && !(l == [])
def textB (p : ByteArray) : Bool := inksB dtNode p.data.toList && decide (p.size ≤ 60)
/-- How often a label is there. -/
def cntL (ls : List ByteArray) (s : ByteArray) : Nat := ls.countP fun p => p.data.toList == s.data.toList
def namedB (ps : List ByteArray) : Bool := ps.any fun p => isM p || isT p
def tailOk (ps : List ByteArray) : Bool := !(ps.dropLast.any isT)
def wrongP (ls : List ByteArray) (p : ByteArray) : Bool := !textB p || decide (1 < cntL ls p)
def partsB (ps : List ByteArray) : Bool := tailOk ps && (namedB ps && (decide (ps.length ≤ 12) && !((lbsT ps).any (wrongP (lbsT ps)))))
/-- May a label stand beside those of parts? -/
def extraAt (ps : List ByteArray) (L : List Lab) (i : Nat) : Bool :=
  (decide (i = 0) || decide (nmL (L.getD (i - 1) default) < nmL (L.getD i default))) && (textB (L.getD i default).1 && (inksB tmInk (vlL (L.getD i default)) && (decide ((L.getD i default).2.size ≤ 60) && decide (cntL (lbsT ps) (L.getD i default).1 = 0))))
def extraTo (ps : List ByteArray) (L : List Lab) (k : Nat) : Bool := (List.range k).all (extraAt ps L)
def extraB (L : List Lab) (ps : List ByteArray) : Bool := extraTo ps L L.length && decide (L.length + (lbsT ps).length ≤ 8)
def wrongF (p : ByteArray) : Bool := !isE p && !textB p
/-- May a rule be? -/
def goodR (r : MRule) : Bool := decide (r.filter.length ≤ 12) && (decide (r.filter.length ≤ r.parts.length) && (!(r.filter.any wrongF) && (partsB r.parts && extraB r.extra r.parts)))
/-- The nodes between points. -/
def nodesL : List UInt8 → List (List UInt8)
  | [] => [[]]
  | c :: cs => if c = 46 then [] :: nodesL cs else match nodesL cs with
    | [] => [[c]]
    | x :: xs => (c :: x) :: xs
def nodesT (p : ByteArray) : List ByteArray := (nodesL p.data.toList).map mkS
def endless (ps : List ByteArray) : Bool := isT (ps.getD (ps.length - 1) default)
def filtTo (fs ns : List ByteArray) (k : Nat) : Bool := (List.range k).all fun i => isE (fs.getD i default) || (fs.getD i default).data.toList == (ns.getD i default).data.toList
/-- Is a rule one for nodes? -/
def fitsN (r : MRule) (ns : List ByteArray) : Bool := !(decide (ns.length < r.parts.length) || (decide (r.parts.length < ns.length) && !endless r.parts)) && filtTo r.filter ns r.filter.length
def matchT (r : MRule) (p : ByteArray) : Bool := goodR r && fitsN r (nodesT p)
def joinT (xs : List ByteArray) : ByteArray := mkS (Lib.join (xs.map (·.data.toList)) [46])
/-- What parts make of nodes: a name's, labels. -/
def takeGo : List ByteArray → List ByteArray → List ByteArray → List Lab → List ByteArray × List Lab
  | [], _, nm, lb => (nm, lb)
  | p :: ps, ns, nm, lb =>
    if isM p then takeGo ps ns.tail (nm ++ [ns.headD default]) lb
    else if isT p then takeGo ps ns.tail (nm ++ ns) lb
    else if isK p then takeGo ps ns.tail nm lb
    else takeGo ps ns.tail nm (lb ++ [(p, ns.headD default)])
def takeT (r : MRule) (p : ByteArray) : ByteArray × List Lab :=
  (joinT (takeGo r.parts (nodesT p) [] r.extra).1, (sortL (takeGo r.parts (nodesT p) [] r.extra).2).getD [])
def applyT (rs : List MRule) (p : ByteArray) : ByteArray × List Lab := match rs.find? fun r => matchT r p with
  | some r => takeT r p
  | none => (p, [])
/-- The nodes that parts take of a name's and labels. -/
def pathGo (L : List Lab) : List ByteArray → List ByteArray → List ByteArray → List ByteArray × Bool
  | [], ns, out => (out, decide (ns = []))
  | p :: ps, ns, out =>
    if isK p then ([], false)
    else if (isM p || isT p) && decide (ns = []) then ([], false)
    else if isT p then pathGo L ps [] (out ++ ns)
    else if isM p then pathGo L ps ns.tail (out ++ [ns.headD default])
    else match getL L p.data.toList with
      | none => ([], false)
      | some x => if inksB dtNode (vlL x) then pathGo L ps ns (out ++ [x.2]) else ([], false)
def hasX (L : List Lab) (x : Lab) : Bool := match getL L (nmL x) with
  | none => false
  | some y => vlL y == vlL x
def ownT (r : MRule) : List ByteArray := lbsT r.parts ++ r.extra.map (·.1)
def invertT (r : MRule) (name : ByteArray) (L : List Lab) : ByteArray × List Lab × Bool :=
  if goodR r && ((pathGo L r.parts (nodesT name) []).2 && (r.extra.all (hasX L) && matchT r (joinT (pathGo L r.parts (nodesT name) []).1))) then
    (joinT (pathGo L r.parts (nodesT name) []).1, outL L (ownT r), true)
  else (mkS [], [], false)
/-! ### a rule's text -/
def wEvery : ByteArray := mkS [42]
def wTail : ByteArray := mkS [109, 101, 116, 114, 105, 99, 42]
def fltGo (l : List UInt8) : Nat → Nat → Bool → List ByteArray → List ByteArray × Nat × Bool
  | 0, a, _, acc => (acc, a, true)
  | f + 1, a, no, acc =>
    if no then (acc, a, true)
    else if isB l a false 42 then
      if isB l (a + 1) false 46 then fltGo l f (a + 2) false (acc ++ [wEvery]) else (acc ++ [wEvery], a + 1, false)
    else
      if isB l (someS l dtNode a false).1 (someS l dtNode a false).2 46 then fltGo l f ((someS l dtNode a false).1 + 1) false (acc ++ [mkS (cutL l a (someS l dtNode a false).1)])
      else (acc ++ [mkS (cutL l a (someS l dtNode a false).1)], someS l dtNode a false)
def fltS (l : List UInt8) : List ByteArray × Nat × Bool := if isB l 0 false 35 then ([], 1, false) else fltGo l (l.length + 1) 0 false []
def prtGo (l : List UInt8) : Nat → Nat → Bool → List ByteArray → List ByteArray × Nat × Bool
  | 0, a, _, acc => (acc, a, true)
  | f + 1, a, no, acc =>
    if no then (acc, a, true)
    else if isM (mkS (cutL l a (someS l dtNode a false).1)) && isB l (someS l dtNode a false).1 (someS l dtNode a false).2 42 then (acc ++ [wTail], (someS l dtNode a false).1 + 1, false)
    else if isB l (someS l dtNode a false).1 (someS l dtNode a false).2 46 then prtGo l f ((someS l dtNode a false).1 + 1) false (acc ++ [mkS (cutL l a (someS l dtNode a false).1)])
    else (acc ++ [mkS (cutL l a (someS l dtNode a false).1)], someS l dtNode a false)
def labS (l : List UInt8) (a : Nat) : Lab × Nat × Bool :=
  let n := someS l dtNode a false
  let e := wordS l [61] n.1 n.2
  let v := someS l tmInk e.1 e.2
  ((mkS (cutL l a n.1), mkS (cutL l e.1 v.1)), v)
def extGo (l : List UInt8) : Nat → Nat → Bool → List Lab → List Lab × Nat × Bool
  | 0, a, _, acc => (acc, a, true)
  | f + 1, a, no, acc =>
    if no then (acc, a, true)
    else if isB l (labS l a).2.1 (labS l a).2.2 44 then extGo l f ((labS l a).2.1 + 1) false (acc ++ [(labS l a).1])
    else (acc ++ [(labS l a).1], (labS l a).2)
/-- The rule of a text, how far, does it stop? -/
def compS (l : List UInt8) : MRule × Nat × Bool :=
  let f := fltS l
  let w := wordS l [32] f.2.1 f.2.2
  let p := prtGo l (l.length + 1) w.1 w.2 []
  if isB l p.2.1 p.2.2 32 then
    let x := extGo l (l.length + 1) (p.2.1 + 1) false []
    (⟨f.1, p.1, x.1⟩, x.2)
  else (⟨f.1, p.1, []⟩, p.2)
def compT (l : List UInt8) : Except (Nat × Nat) MRule :=
  if (compS l).2.2 || decide ((compS l).2.1 ≠ l.length) then .error (11, (compS l).2.1)
  else if goodR (compS l).1 then .ok (compS l).1 else .error (19, 0)
end Go.Proofs.Ytjffagffjcbolaa
